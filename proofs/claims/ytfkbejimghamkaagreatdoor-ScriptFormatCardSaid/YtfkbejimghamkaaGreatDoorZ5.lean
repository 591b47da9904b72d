/- Plain Lean over any program, and walks of this seat's functions: contracts, each proved once (part 5). -/
import Derived.Test.YtfkbejimghamkaaGreatDoorZ4
set_option maxRecDepth 1000000
set_option synthInstance.maxSize 1000000
set_option synthInstance.maxHeartbeats 10000000
set_option linter.unusedVariables false
set_option linter.unusedSimpArgs false
namespace Go.Proofs.YtfkbejimghamkaaGreatDoor
open Go.Proofs.Tryz
open Go.Fl Go.Ab Go.Mac Go.Sha
theorem a7a (m M:UInt64) (k:Nat) (hk:k < 64) (hM:M.toNat=2^k - 1):(m &&& M) >>> UInt64.ofNat k=0:=by
 apply UInt64.toNat_inj.1
 rw [UInt64.toNat_shiftRight,UInt64.toNat_and,hM,Nat.and_two_pow_sub_one_eq_mod,Nat.shiftRight_eq_div_pow]
 have e:(UInt64.ofNat k).toNat=k:=by simp;omega
 rw [e,Nat.mod_eq_of_lt (show k < 64 by omega)]
 show m.toNat % 2^k/2^k=0
 exact Nat.div_eq_of_lt (Nat.mod_lt _ (Nat.two_pow_pos k))
theorem a5s (n:Nat) (hn:n < 64):((1:UInt64) <<< UInt64.ofNat n).toNat=2^n:=by
 rw [UInt64.toNat_shiftLeft]
 have e:(UInt64.ofNat n).toNat=n:=by simp;omega
 rw [e,Nat.mod_eq_of_lt (show n < 64 by omega)]
 show(1 <<< n) % 2^64=2^n
 rw [Nat.one_shiftLeft]
 exact Nat.mod_eq_of_lt (Nat.pow_lt_pow_right (by decide) hn)
theorem ofInt_ofNat {v:Int} (h0:0≤v):UInt64.ofInt v=UInt64.ofNat v.toNat:=by
 obtain⟨n,rfl⟩:=Int.eq_ofNat_of_zero_le h0
 apply UInt64.toNat_inj.1
 simp [UInt64.ofInt];omega
theorem P9 {x:UInt64} {b:Int} (hb:b=64∨b=32∨b=7) (h3:b < 64) (h:¬(x &&& ((1 <<< UInt64.ofInt b) - 1))=0):R3 (x &&& ((1 <<< UInt64.ofInt b) - 1)) b=true:=by
 have h2:(x &&& ((1 <<< UInt64.ofInt b) - 1)) >>> UInt64.ofNat b.toNat=0:=by
  rcases hb with rfl|rfl|rfl
  ·omega
  ·exact a7a x _ 32 (by decide) (by decide)
  ·exact a7a x _ 7 (by decide) (by decide)
 unfold R3;rw [h2];simp [h]
theorem Q1 {x:UInt64} {b:Int} (hb:b=64∨b=32∨b=7) (h3:¬b < 64) (h:¬x=0):R3 x b=true:=by
 obtain rfl:b=64:=by omega
 unfold R3;simp [h]
theorem Q2 {v b:Int} (hb:b=64∨b=32∨b=7) (h0:0≤v) (h1:v < b):R3 (1 <<< UInt64.ofInt v) b=true:=by
 have hv:v.toNat < 64:=by omega
 have h2:=a5s v.toNat hv
 rw [ofInt_ofNat h0]
 have hne:¬((1:UInt64) <<< UInt64.ofNat v.toNat)=0:=fun e=>by
  rw [e] at h2
  have:=Nat.two_pow_pos v.toNat
  simp at h2;omega
 unfold R3
 by_cases h64:b=64
 ·simp [hne,h64]
 ·have h3:((1:UInt64) <<< UInt64.ofNat v.toNat) >>> UInt64.ofNat b.toNat=0:=by
   apply UInt64.toNat_inj.1
   rw [UInt64.toNat_shiftRight,h2,Nat.shiftRight_eq_div_pow]
   have e:(UInt64.ofNat b.toNat).toNat=b.toNat:=by simp;omega
   rw [e,Nat.mod_eq_of_lt (show b.toNat < 64 by omega)]
   exact Nat.div_eq_of_lt (Nat.pow_lt_pow_right (by decide) (by omega))
  rw [h3];simp [hne]
theorem a1v (w:Value) (d:j9) (b:Int) (hd:C7 d) (hb:b=64∨b=32∨b=7):E1 gl prog 81 [dk w,.v b] [.ob w d] (fun r Hs=>∃ m:UInt64,R3 m b=true∧∃ d',C7 d'∧r = .v m∧Hs = [.ob w d']):=by
 refine E1.M7 func81 rfl (by kernel_rfl) 45 rfl rfl _ rfl _ rfl fun C hC hG => ?_
 refine .q 12 hG ?_
 refine .km hG (x5 _ _ _ (by first|assumption|exact l8 _) (by first|omega|(simp;done)|(simp;omega)|(simp at *;omega)) (by first|omega|(simp;done)|(simp;omega)|(simp at *;omega))) .z (by rintro _ _ ⟨_,_,_,_,_,_,rfl⟩;exact⟨_,rfl⟩) fun r7 B7 hr7 => ?_
 obtain⟨v7,d7,h07,h17,hd7,rfl,hB⟩:=hr7
 cases hB
 refine .q 8 hG ⟨fun hc8 => ?_,fun hc8 => ?_⟩
 ·refine .q 2 hG ?_
  refine .km hG (x5 _ _ _ (by first|assumption|exact l8 _) (by first|omega|(simp;done)|(simp;omega)|(simp at *;omega)) (by first|omega|(simp;done)|(simp;omega)|(simp at *;omega))) .z (by rintro _ _ ⟨_,_,_,_,_,_,rfl⟩;exact⟨_,rfl⟩) fun r11 B11 hr11 => ?_
  obtain⟨v11,d11,h011,h111,hd11,rfl,hB⟩:=hr11
  cases hB
  refine .q 10 hG ⟨fun hc30 => ?_,fun hc30 => ?_⟩
  ·have hbn:(UInt64.ofInt b).toNat < 64:=by rcases hb with rfl|rfl|rfl;omega;decide;decide
   refine .q 4 hG ?_
   refine .p (.T1 (.u64 1 a8) (.t a8) (by first|omega|(simp;done)|(simp;omega)|(simp at *;omega)) (by first|omega|(simp;done)|(simp;omega)|(simp at *;omega)) ?_)
   refine .q 11 hG ⟨fun hc38 => ?_,fun hc38 => ?_⟩
   ·refine .q 4 hG ?_
    refine .km hG (x5 _ _ _ (by first|assumption|exact l8 _) (by first|omega|(simp;done)|(simp;omega)|(simp at *;omega)) (by first|omega|(simp;done)|(simp;omega)|(simp at *;omega))) .z (by rintro _ _ ⟨_,_,_,_,_,_,rfl⟩;exact⟨_,rfl⟩) fun r41 B41 hr41 => ?_
    obtain⟨v41,d41,h041,h141,hd41,rfl,hB⟩:=hr41
    cases hB
    have hvn:(UInt64.ofInt v41).toNat < 64:=by rw [ofInt_ofNat h041];simp;omega
    refine .q 1 hG ?_
    refine .p (.T1 (.u64 1 a8) (.t a8) (by first|omega|(simp;done)|(simp;omega)|(simp at *;omega)) (by first|omega|(simp;done)|(simp;omega)|(simp at *;omega)) ?_)
    refine .q 3 hG ?_
    refine .e1 a8 a8 ?_
    refine⟨_,.cons .z (.nil),?_⟩
    first|exact⟨_,P9 hb (by assumption) (by assumption),_,by assumption,rfl,rfl⟩|exact⟨_,Q1 hb (by assumption) (by assumption),_,by assumption,rfl,rfl⟩|exact⟨_,Q2 hb (by assumption) (by assumption),_,by assumption,rfl,rfl⟩
   ·refine .q 7 hG ?_
    refine .e1 a8 a8 ?_
    refine⟨_,.cons .z (.nil),?_⟩
    first|exact⟨_,P9 hb (by assumption) (by assumption),_,by assumption,rfl,rfl⟩|exact⟨_,Q1 hb (by assumption) (by assumption),_,by assumption,rfl,rfl⟩|exact⟨_,Q2 hb (by assumption) (by assumption),_,by assumption,rfl,rfl⟩
  ·refine .q 8 hG ⟨fun hc38 => ?_,fun hc38 => ?_⟩
   ·refine .q 4 hG ?_
    refine .km hG (x5 _ _ _ (by first|assumption|exact l8 _) (by first|omega|(simp;done)|(simp;omega)|(simp at *;omega)) (by first|omega|(simp;done)|(simp;omega)|(simp at *;omega))) .z (by rintro _ _ ⟨_,_,_,_,_,_,rfl⟩;exact⟨_,rfl⟩) fun r41 B41 hr41 => ?_
    obtain⟨v41,d41,h041,h141,hd41,rfl,hB⟩:=hr41
    cases hB
    have hvn:(UInt64.ofInt v41).toNat < 64:=by rw [ofInt_ofNat h041];simp;omega
    refine .q 1 hG ?_
    refine .p (.T1 (.u64 1 a8) (.t a8) (by first|omega|(simp;done)|(simp;omega)|(simp at *;omega)) (by first|omega|(simp;done)|(simp;omega)|(simp at *;omega)) ?_)
    refine .q 3 hG ?_
    refine .e1 a8 a8 ?_
    refine⟨_,.cons .z (.nil),?_⟩
    first|exact⟨_,P9 hb (by assumption) (by assumption),_,by assumption,rfl,rfl⟩|exact⟨_,Q1 hb (by assumption) (by assumption),_,by assumption,rfl,rfl⟩|exact⟨_,Q2 hb (by assumption) (by assumption),_,by assumption,rfl,rfl⟩
   ·refine .q 7 hG ?_
    refine .e1 a8 a8 ?_
    refine⟨_,.cons .z (.nil),?_⟩
    first|exact⟨_,P9 hb (by assumption) (by assumption),_,by assumption,rfl,rfl⟩|exact⟨_,Q1 hb (by assumption) (by assumption),_,by assumption,rfl,rfl⟩|exact⟨_,Q2 hb (by assumption) (by assumption),_,by assumption,rfl,rfl⟩
 ·refine .q 6 hG ⟨fun hc13 => ?_,fun hc13 => ?_⟩
  ·refine .q 2 hG ?_
   refine .km hG (x5 _ _ _ (by first|assumption|exact l8 _) (by first|omega|(simp;done)|(simp;omega)|(simp at *;omega)) (by first|omega|(simp;done)|(simp;omega)|(simp at *;omega))) .z (by rintro _ _ ⟨_,_,_,_,_,_,rfl⟩;exact⟨_,rfl⟩) fun r16 B16 hr16 => ?_
   obtain⟨v16,d16,h016,h116,hd16,rfl,hB⟩:=hr16
   cases hB
   refine .q 2 hG ?_
   refine .km hG (x5 _ _ _ (by first|assumption|exact l8 _) (by first|omega|(simp;done)|(simp;omega)|(simp at *;omega)) (by first|omega|(simp;done)|(simp;omega)|(simp at *;omega))) .z (by rintro _ _ ⟨_,_,_,_,_,_,rfl⟩;exact⟨_,rfl⟩) fun r19 B19 hr19 => ?_
   obtain⟨v19,d19,h019,h119,hd19,rfl,hB⟩:=hr19
   cases hB
   refine .q 1 hG ?_
   refine .p (.T1 (.t a8) (.u64 48 a8) (by first|omega|(simp;done)|(simp;omega)|(simp at *;omega)) (by first|omega|(simp;done)|(simp;omega)|(simp at *;omega)) ?_)
   refine .q 10 hG ⟨fun hc30 => ?_,fun hc30 => ?_⟩
   ·have hbn:(UInt64.ofInt b).toNat < 64:=by rcases hb with rfl|rfl|rfl;omega;decide;decide
    refine .q 4 hG ?_
    refine .p (.T1 (.u64 1 a8) (.t a8) (by first|omega|(simp;done)|(simp;omega)|(simp at *;omega)) (by first|omega|(simp;done)|(simp;omega)|(simp at *;omega)) ?_)
    refine .q 11 hG ⟨fun hc38 => ?_,fun hc38 => ?_⟩
    ·refine .q 4 hG ?_
     refine .km hG (x5 _ _ _ (by first|assumption|exact l8 _) (by first|omega|(simp;done)|(simp;omega)|(simp at *;omega)) (by first|omega|(simp;done)|(simp;omega)|(simp at *;omega))) .z (by rintro _ _ ⟨_,_,_,_,_,_,rfl⟩;exact⟨_,rfl⟩) fun r41 B41 hr41 => ?_
     obtain⟨v41,d41,h041,h141,hd41,rfl,hB⟩:=hr41
     cases hB
     have hvn:(UInt64.ofInt v41).toNat < 64:=by rw [ofInt_ofNat h041];simp;omega
     refine .q 1 hG ?_
     refine .p (.T1 (.u64 1 a8) (.t a8) (by first|omega|(simp;done)|(simp;omega)|(simp at *;omega)) (by first|omega|(simp;done)|(simp;omega)|(simp at *;omega)) ?_)
     refine .q 3 hG ?_
     refine .e1 a8 a8 ?_
     refine⟨_,.cons .z (.nil),?_⟩
     first|exact⟨_,P9 hb (by assumption) (by assumption),_,by assumption,rfl,rfl⟩|exact⟨_,Q1 hb (by assumption) (by assumption),_,by assumption,rfl,rfl⟩|exact⟨_,Q2 hb (by assumption) (by assumption),_,by assumption,rfl,rfl⟩
    ·refine .q 7 hG ?_
     refine .e1 a8 a8 ?_
     refine⟨_,.cons .z (.nil),?_⟩
     first|exact⟨_,P9 hb (by assumption) (by assumption),_,by assumption,rfl,rfl⟩|exact⟨_,Q1 hb (by assumption) (by assumption),_,by assumption,rfl,rfl⟩|exact⟨_,Q2 hb (by assumption) (by assumption),_,by assumption,rfl,rfl⟩
   ·refine .q 8 hG ⟨fun hc38 => ?_,fun hc38 => ?_⟩
    ·refine .q 4 hG ?_
     refine .km hG (x5 _ _ _ (by first|assumption|exact l8 _) (by first|omega|(simp;done)|(simp;omega)|(simp at *;omega)) (by first|omega|(simp;done)|(simp;omega)|(simp at *;omega))) .z (by rintro _ _ ⟨_,_,_,_,_,_,rfl⟩;exact⟨_,rfl⟩) fun r41 B41 hr41 => ?_
     obtain⟨v41,d41,h041,h141,hd41,rfl,hB⟩:=hr41
     cases hB
     have hvn:(UInt64.ofInt v41).toNat < 64:=by rw [ofInt_ofNat h041];simp;omega
     refine .q 1 hG ?_
     refine .p (.T1 (.u64 1 a8) (.t a8) (by first|omega|(simp;done)|(simp;omega)|(simp at *;omega)) (by first|omega|(simp;done)|(simp;omega)|(simp at *;omega)) ?_)
     refine .q 3 hG ?_
     refine .e1 a8 a8 ?_
     refine⟨_,.cons .z (.nil),?_⟩
     first|exact⟨_,P9 hb (by assumption) (by assumption),_,by assumption,rfl,rfl⟩|exact⟨_,Q1 hb (by assumption) (by assumption),_,by assumption,rfl,rfl⟩|exact⟨_,Q2 hb (by assumption) (by assumption),_,by assumption,rfl,rfl⟩
    ·refine .q 7 hG ?_
     refine .e1 a8 a8 ?_
     refine⟨_,.cons .z (.nil),?_⟩
     first|exact⟨_,P9 hb (by assumption) (by assumption),_,by assumption,rfl,rfl⟩|exact⟨_,Q1 hb (by assumption) (by assumption),_,by assumption,rfl,rfl⟩|exact⟨_,Q2 hb (by assumption) (by assumption),_,by assumption,rfl,rfl⟩
  ·refine .q 6 hG ⟨fun hc23 => ?_,fun hc23 => ?_⟩
   ·refine .q 2 hG ?_
    refine .km hG (x5 _ _ _ (by first|assumption|exact l8 _) (by first|omega|(simp;done)|(simp;omega)|(simp at *;omega)) (by first|omega|(simp;done)|(simp;omega)|(simp at *;omega))) .z (by rintro _ _ ⟨_,_,_,_,_,_,rfl⟩;exact⟨_,rfl⟩) fun r26 B26 hr26 => ?_
    obtain⟨v26,d26,h026,h126,hd26,rfl,hB⟩:=hr26
    cases hB
    refine .q 1 hG ?_
    refine .p (.a9W (.t a8) ?_)
    refine .q 9 hG ⟨fun hc30 => ?_,fun hc30 => ?_⟩
    ·have hbn:(UInt64.ofInt b).toNat < 64:=by rcases hb with rfl|rfl|rfl;omega;decide;decide
     refine .q 4 hG ?_
     refine .p (.T1 (.u64 1 a8) (.t a8) (by first|omega|(simp;done)|(simp;omega)|(simp at *;omega)) (by first|omega|(simp;done)|(simp;omega)|(simp at *;omega)) ?_)
     refine .q 11 hG ⟨fun hc38 => ?_,fun hc38 => ?_⟩
     ·refine .q 4 hG ?_
      refine .km hG (x5 _ _ _ (by first|assumption|exact l8 _) (by first|omega|(simp;done)|(simp;omega)|(simp at *;omega)) (by first|omega|(simp;done)|(simp;omega)|(simp at *;omega))) .z (by rintro _ _ ⟨_,_,_,_,_,_,rfl⟩;exact⟨_,rfl⟩) fun r41 B41 hr41 => ?_
      obtain⟨v41,d41,h041,h141,hd41,rfl,hB⟩:=hr41
      cases hB
      have hvn:(UInt64.ofInt v41).toNat < 64:=by rw [ofInt_ofNat h041];simp;omega
      refine .q 1 hG ?_
      refine .p (.T1 (.u64 1 a8) (.t a8) (by first|omega|(simp;done)|(simp;omega)|(simp at *;omega)) (by first|omega|(simp;done)|(simp;omega)|(simp at *;omega)) ?_)
      refine .q 3 hG ?_
      refine .e1 a8 a8 ?_
      refine⟨_,.cons .z (.nil),?_⟩
      first|exact⟨_,P9 hb (by assumption) (by assumption),_,by assumption,rfl,rfl⟩|exact⟨_,Q1 hb (by assumption) (by assumption),_,by assumption,rfl,rfl⟩|exact⟨_,Q2 hb (by assumption) (by assumption),_,by assumption,rfl,rfl⟩
     ·refine .q 7 hG ?_
      refine .e1 a8 a8 ?_
      refine⟨_,.cons .z (.nil),?_⟩
      first|exact⟨_,P9 hb (by assumption) (by assumption),_,by assumption,rfl,rfl⟩|exact⟨_,Q1 hb (by assumption) (by assumption),_,by assumption,rfl,rfl⟩|exact⟨_,Q2 hb (by assumption) (by assumption),_,by assumption,rfl,rfl⟩
    ·refine .q 8 hG ⟨fun hc38 => ?_,fun hc38 => ?_⟩
     ·refine .q 4 hG ?_
      refine .km hG (x5 _ _ _ (by first|assumption|exact l8 _) (by first|omega|(simp;done)|(simp;omega)|(simp at *;omega)) (by first|omega|(simp;done)|(simp;omega)|(simp at *;omega))) .z (by rintro _ _ ⟨_,_,_,_,_,_,rfl⟩;exact⟨_,rfl⟩) fun r41 B41 hr41 => ?_
      obtain⟨v41,d41,h041,h141,hd41,rfl,hB⟩:=hr41
      cases hB
      have hvn:(UInt64.ofInt v41).toNat < 64:=by rw [ofInt_ofNat h041];simp;omega
      refine .q 1 hG ?_
      refine .p (.T1 (.u64 1 a8) (.t a8) (by first|omega|(simp;done)|(simp;omega)|(simp at *;omega)) (by first|omega|(simp;done)|(simp;omega)|(simp at *;omega)) ?_)
      refine .q 3 hG ?_
      refine .e1 a8 a8 ?_
      refine⟨_,.cons .z (.nil),?_⟩
      first|exact⟨_,P9 hb (by assumption) (by assumption),_,by assumption,rfl,rfl⟩|exact⟨_,Q1 hb (by assumption) (by assumption),_,by assumption,rfl,rfl⟩|exact⟨_,Q2 hb (by assumption) (by assumption),_,by assumption,rfl,rfl⟩
     ·refine .q 7 hG ?_
      refine .e1 a8 a8 ?_
      refine⟨_,.cons .z (.nil),?_⟩
      first|exact⟨_,P9 hb (by assumption) (by assumption),_,by assumption,rfl,rfl⟩|exact⟨_,Q1 hb (by assumption) (by assumption),_,by assumption,rfl,rfl⟩|exact⟨_,Q2 hb (by assumption) (by assumption),_,by assumption,rfl,rfl⟩
   ·refine .q 8 hG ⟨fun hc30 => ?_,fun hc30 => ?_⟩
    ·have hbn:(UInt64.ofInt b).toNat < 64:=by rcases hb with rfl|rfl|rfl;omega;decide;decide
     refine .q 4 hG ?_
     refine .p (.T1 (.u64 1 a8) (.t a8) (by first|omega|(simp;done)|(simp;omega)|(simp at *;omega)) (by first|omega|(simp;done)|(simp;omega)|(simp at *;omega)) ?_)
     refine .q 11 hG ⟨fun hc38 => ?_,fun hc38 => ?_⟩
     ·refine .q 4 hG ?_
      refine .km hG (x5 _ _ _ (by first|assumption|exact l8 _) (by first|omega|(simp;done)|(simp;omega)|(simp at *;omega)) (by first|omega|(simp;done)|(simp;omega)|(simp at *;omega))) .z (by rintro _ _ ⟨_,_,_,_,_,_,rfl⟩;exact⟨_,rfl⟩) fun r41 B41 hr41 => ?_
      obtain⟨v41,d41,h041,h141,hd41,rfl,hB⟩:=hr41
      cases hB
      have hvn:(UInt64.ofInt v41).toNat < 64:=by rw [ofInt_ofNat h041];simp;omega
      refine .q 1 hG ?_
      refine .p (.T1 (.u64 1 a8) (.t a8) (by first|omega|(simp;done)|(simp;omega)|(simp at *;omega)) (by first|omega|(simp;done)|(simp;omega)|(simp at *;omega)) ?_)
      refine .q 3 hG ?_
      refine .e1 a8 a8 ?_
      refine⟨_,.cons .z (.nil),?_⟩
      first|exact⟨_,P9 hb (by assumption) (by assumption),_,by assumption,rfl,rfl⟩|exact⟨_,Q1 hb (by assumption) (by assumption),_,by assumption,rfl,rfl⟩|exact⟨_,Q2 hb (by assumption) (by assumption),_,by assumption,rfl,rfl⟩
     ·refine .q 7 hG ?_
      refine .e1 a8 a8 ?_
      refine⟨_,.cons .z (.nil),?_⟩
      first|exact⟨_,P9 hb (by assumption) (by assumption),_,by assumption,rfl,rfl⟩|exact⟨_,Q1 hb (by assumption) (by assumption),_,by assumption,rfl,rfl⟩|exact⟨_,Q2 hb (by assumption) (by assumption),_,by assumption,rfl,rfl⟩
    ·refine .q 8 hG ⟨fun hc38 => ?_,fun hc38 => ?_⟩
     ·refine .q 4 hG ?_
      refine .km hG (x5 _ _ _ (by first|assumption|exact l8 _) (by first|omega|(simp;done)|(simp;omega)|(simp at *;omega)) (by first|omega|(simp;done)|(simp;omega)|(simp at *;omega))) .z (by rintro _ _ ⟨_,_,_,_,_,_,rfl⟩;exact⟨_,rfl⟩) fun r41 B41 hr41 => ?_
      obtain⟨v41,d41,h041,h141,hd41,rfl,hB⟩:=hr41
      cases hB
      have hvn:(UInt64.ofInt v41).toNat < 64:=by rw [ofInt_ofNat h041];simp;omega
      refine .q 1 hG ?_
      refine .p (.T1 (.u64 1 a8) (.t a8) (by first|omega|(simp;done)|(simp;omega)|(simp at *;omega)) (by first|omega|(simp;done)|(simp;omega)|(simp at *;omega)) ?_)
      refine .q 3 hG ?_
      refine .e1 a8 a8 ?_
      refine⟨_,.cons .z (.nil),?_⟩
      first|exact⟨_,P9 hb (by assumption) (by assumption),_,by assumption,rfl,rfl⟩|exact⟨_,Q1 hb (by assumption) (by assumption),_,by assumption,rfl,rfl⟩|exact⟨_,Q2 hb (by assumption) (by assumption),_,by assumption,rfl,rfl⟩
     ·refine .q 7 hG ?_
      refine .e1 a8 a8 ?_
      refine⟨_,.cons .z (.nil),?_⟩
      first|exact⟨_,P9 hb (by assumption) (by assumption),_,by assumption,rfl,rfl⟩|exact⟨_,Q1 hb (by assumption) (by assumption),_,by assumption,rfl,rfl⟩|exact⟨_,Q2 hb (by assumption) (by assumption),_,by assumption,rfl,rfl⟩
theorem V9 (w:Value) (d:j9) (hd:C7 d):E1 gl prog 82 [dk w] [.ob w d] (fun r Hs=>∃ v:Int,0≤v∧v≤67108864∧∃ d',C7 d'∧r = .v v∧Hs = [.ob w d']):=by
 refine E1.M7 func82 rfl (by kernel_rfl) 25 rfl rfl _ rfl _ rfl fun C hC hG => ?_
 refine .q 8 hG ?_
 refine .km hG (x5 _ _ _ (by first|assumption|exact l8 _) (by first|omega|(simp;done)|(simp;omega)|(simp at *;omega)) (by first|omega|(simp;done)|(simp;omega)|(simp at *;omega))) .z (by rintro _ _ ⟨_,_,_,_,_,_,rfl⟩;exact⟨_,rfl⟩) fun r4 B4 hr4 => ?_
 obtain⟨v4,d4,h04,h14,hd4,rfl,hB⟩:=hr4
 cases hB
 refine .q 8 hG ⟨fun hc5 => ?_,fun hc5 => ?_⟩
 ·refine .q 3 hG ?_
  refine .km hG (x5 _ _ _ (by first|assumption|exact l8 _) (by first|omega|(simp;done)|(simp;omega)|(simp at *;omega)) (by first|omega|(simp;done)|(simp;omega)|(simp at *;omega))) .z (by rintro _ _ ⟨_,_,_,_,_,_,rfl⟩;exact⟨_,rfl⟩) fun r8 B8 hr8 => ?_
  obtain⟨v8,d8,h08,h18,hd8,rfl,hB⟩:=hr8
  cases hB
  refine .q 3 hG ?_
  refine .e1 a8 a8 ?_
  refine⟨_,.cons .z (.nil),?_⟩
  exact⟨_,by omega,by omega,_,by assumption,rfl,rfl⟩
 ·refine .q 6 hG ⟨fun hc9 => ?_,fun hc9 => ?_⟩
  ·refine .q 3 hG ?_
   refine .km hG (x5 _ _ _ (by first|assumption|exact l8 _) (by first|omega|(simp;done)|(simp;omega)|(simp at *;omega)) (by first|omega|(simp;done)|(simp;omega)|(simp at *;omega))) .z (by rintro _ _ ⟨_,_,_,_,_,_,rfl⟩;exact⟨_,rfl⟩) fun r12 B12 hr12 => ?_
   obtain⟨v12,d12,h012,h112,hd12,rfl,hB⟩:=hr12
   cases hB
   refine .p (.mul (.t a8) (.i a8) (by first|omega|(simp;done)|(simp;omega)|(simp at *;omega)) (by first|omega|(simp;done)|(simp;omega)|(simp at *;omega)) ?_)
   refine .q 1 hG ?_
   refine .km hG (x5 _ _ _ (by first|assumption|exact l8 _) (by first|omega|(simp;done)|(simp;omega)|(simp at *;omega)) (by first|omega|(simp;done)|(simp;omega)|(simp at *;omega))) .z (by rintro _ _ ⟨_,_,_,_,_,_,rfl⟩;exact⟨_,rfl⟩) fun r15 B15 hr15 => ?_
   obtain⟨v15,d15,h015,h115,hd15,rfl,hB⟩:=hr15
   cases hB
   refine .ad (by first|omega|(simp;done)|(simp;omega)|(simp at *;omega)) (by first|omega|(simp;done)|(simp;omega)|(simp at *;omega)) (.p (.a4C (.t a8) (.i a8) ?_))
   refine .q 3 hG ?_
   refine .e1 a8 a8 ?_
   refine⟨_,.cons .z (.nil),?_⟩
   exact⟨_,by omega,by omega,_,by assumption,rfl,rfl⟩
  ·refine .q 6 hG ⟨fun hc18 => ?_,fun hc18 => ?_⟩
   ·refine .q 3 hG ?_
    refine .km hG (x5 _ _ _ (by first|assumption|exact l8 _) (by first|omega|(simp;done)|(simp;omega)|(simp at *;omega)) (by first|omega|(simp;done)|(simp;omega)|(simp at *;omega))) .z (by rintro _ _ ⟨_,_,_,_,_,_,rfl⟩;exact⟨_,rfl⟩) fun r21 B21 hr21 => ?_
    obtain⟨v21,d21,h021,h121,hd21,rfl,hB⟩:=hr21
    cases hB
    refine .sb (by first|omega|(simp;done)|(simp;omega)|(simp at *;omega)) (by first|omega|(simp;done)|(simp;omega)|(simp at *;omega)) ?_
    refine .q 3 hG ?_
    refine .e1 a8 a8 ?_
    refine⟨_,.cons .z (.nil),?_⟩
    exact⟨_,by omega,by omega,_,by assumption,rfl,rfl⟩
   ·refine .q 4 hG ?_
    refine .km hG (x5 _ _ _ (by first|assumption|exact l8 _) (by first|omega|(simp;done)|(simp;omega)|(simp at *;omega)) (by first|omega|(simp;done)|(simp;omega)|(simp at *;omega))) .z (by rintro _ _ ⟨_,_,_,_,_,_,rfl⟩;exact⟨_,rfl⟩) fun r24 B24 hr24 => ?_
    obtain⟨v24,d24,h024,h124,hd24,rfl,hB⟩:=hr24
    cases hB
    refine .q 3 hG ?_
    refine .e1 a8 a8 ?_
    refine⟨_,.cons .z (.nil),?_⟩
    exact⟨_,by omega,by omega,_,by assumption,rfl,rfl⟩
theorem a8n (w:Value) (d:j9) (hd:C7 d):E1 gl prog 83 [dk w] [.ob w d] (fun r Hs=>∃ s:u0,u7 s=true∧∃ d',C7 d'∧r = .v s∧Hs = [.ob w d']):=by
 have hn:=L6 (d:=d) (n:=8) (by decide)
 refine E1.jn func83 (by kernel_rfl) 8 rfl fun C hC hG => ?_
 refine .q 2 hG ?_
 refine .p (.assign (.s [] (by decide) (by decide)) ?_)
 refine .q 3 hG ?_
 refine .bs a8 (by decide) fun b3 => ?_
 refine .q 1 hG ?_
 refine .km hG (a01 _ _ _ hd (by first|omega|(simp;done)|(simp;omega)|(simp at *;omega)) (by first|omega|(simp;done)|(simp;omega)|(simp at *;omega))) .z1 (by rintro _ _ ⟨_,rfl⟩;exact⟨_,rfl⟩) fun r5 B5 hr5 => ?_
 obtain⟨rfl,hB⟩:=hr5
 cases hB
 refine .p (.J4 ty9 underlying36 a8 .z (.t a8) (by first|omega|(simp;done)|(simp;omega)|(simp at *;omega)) (by first|omega|(simp;done)|(simp;omega)|(simp at *;omega)) (.p (.a2q ty9 (.t a8) .z (by first|omega|(simp;done)|(simp;omega)|(simp at *;omega)) ?_)))
 refine .q 2 hG ?_
 refine .drop ?_
 refine .q 1 hG ?_
 refine .e1 a8 a8 ?_
 refine⟨_,?_,_,K1 hd,a8,a8⟩
 refine(show ∀ s∈_,u7 s=true from ?_) _ (List.getElem_mem _)
 decide
theorem B1 {k:Int} {m:UInt64} (hk:k=1∨k=2∨k=3) (h:R3 m (A1 k)=true):p8 ⟨k,m,0,0,⟨[]⟩,0⟩=true:=by
 unfold p8;rw [if_pos hk];dsimp only;rw [h];simp
theorem D6 {a b:Int} (h0:0≤a) (h1:a≤b) (h2:b≤67108864):p8 ⟨4,0,a,b,⟨[]⟩,0⟩=true:=by
 unfold p8;simp [h0,h1,h2]
theorem F4 {a b:Int} (h0:0≤a) (h1:a < 1440) (h2:0≤b) (h3:b < 1440):p8 ⟨5,0,a,b,⟨[]⟩,0⟩=true:=by
 unfold p8;simp [h0,h1,h2,h3]
theorem I9 {s:u0} (h:u7 s=true):p8 ⟨6,0,0,0,s,0⟩=true:=by unfold p8;simp [h]
theorem F8 {n:Int} (h0:0≤n) (h1:n≤1000000):p8 ⟨7,0,0,0,⟨[]⟩,n⟩=true:=by unfold p8;simp [h0,h1]
theorem a0P (w:Value) (d:j9) (rides:Bool) (hd:C7 d):E1 gl prog 57 [dk w,.v rides] [.ob w d] (fun r Hs=>∃ p:Pred,p8 p=true∧(rides=false→p.Kind≠7)∧∃ d',C7 d'∧r = .v p∧Hs = [.ob w d']):=by
 refine E1.M7 func57 rfl (by kernel_rfl) 81 rfl rfl _ rfl _ rfl fun C hC hG => ?_
 refine .q 3 hG fun b4 => ?_
 refine .q 4 hG ?_
 refine .km hG (K8 _ _ _ _ (by first|assumption|exact l8 _) (by first|omega|(simp;done)|(simp;omega)|(simp at *;omega)) (by first|omega|(simp;done)|(simp;omega)|(simp at *;omega)) (by first|omega|(simp;done)|(simp;omega)|(simp at *;omega))) .z1 (by rintro _ _ ⟨_,_,_,_,_,_,rfl⟩;exact⟨_,rfl⟩) fun r9 B9 hr9 => ?_
 obtain⟨v9,d9,h09,h19,hd9,rfl,hB⟩:=hr9
 cases hB
 refine .p (.bS1 j3.l0 a8 E6 a0B (fun c0=>(⟨c0,0,0,0,⟨[]⟩,0⟩:j3)) (fun _=>a8) a8 a8 (.t a8) ?_)
 refine .q 1 hG fun b5 => ?_
 refine .q 13 hG ?_
 refine .cond (.t a8) (fun hc17 => ?_) (fun hc17 => ?_)
 ·refine .q 16 hG ?_
  refine .a1g (.t rfl) (fun hc21=>(by exfalso;exact absurd hc21 (show ¬(4:Int)=1 by decide))) (fun hc21 => ?_)
  refine .q 5 hG ?_
  refine .a1g (.t rfl) (fun hc26=>(by exfalso;exact absurd hc26 (show ¬(4:Int)=2 by decide))) (fun hc26 => ?_)
  refine .q 5 hG ?_
  refine .a1g (.t rfl) (fun hc31=>(by exfalso;exact absurd hc31 (show ¬(4:Int)=3 by decide))) (fun hc31 => ?_)
  refine .q 5 hG ?_
  refine .a1g (.t a8) (fun hc36 => ?_) (fun hc36=>(by exfalso;exact hc36 rfl))
  refine .q 3 hG ?_
  refine .km hG (V9 _ _ (by assumption)) .z2 (by rintro _ _ ⟨_,_,_,_,_,_,rfl⟩;exact⟨_,rfl⟩) fun r39 B39 hr39 => ?_
  obtain⟨v39,h039,h139,d39,hd39,rfl,hB⟩:=hr39
  cases hB
  refine .q 1 hG ?_
  refine .km hG (V9 _ _ (by assumption)) .z2 (by rintro _ _ ⟨_,_,_,_,_,_,rfl⟩;exact⟨_,rfl⟩) fun r41 B41 hr41 => ?_
  obtain⟨v41,h041,h141,d41,hd41,rfl,hB⟩:=hr41
  cases hB
  refine .q 6 hG ?_
  refine .p (.a4C (.t a8) (.t a8) ?_)
  refine .q 2 hG ?_
  refine .p (.b1u (.t a8) (.t a8) ?_)
  refine .q 11 hG ?_
  refine⟨_,.r1 a8 (.cell E6 a8 .z1),?_⟩
  refine⟨_,.cons .z2 (.nil),?_⟩
  first|(exfalso;(try dsimp only at *);omega)|exact⟨⟨4,0,min v39 v41,max v39 v41,⟨[]⟩,0⟩,D6 (by omega) (by omega) (by omega),fun _=>(show(4:Int)≠7 by decide),_,by assumption,rfl,rfl⟩|(obtain rfl:v9=1:=(by assumption);exact⟨_,B1 (Or.inl rfl) (by assumption),fun _=>(show(1:Int)≠7 by decide),_,by assumption,rfl,rfl⟩)|(obtain rfl:v9=2:=(by assumption);exact⟨_,B1 (Or.inr (Or.inl rfl)) (by assumption),fun _=>(show(2:Int)≠7 by decide),_,by assumption,rfl,rfl⟩)|(obtain rfl:v9=3:=(by assumption);exact⟨_,B1 (Or.inr (Or.inr rfl)) (by assumption),fun _=>(show(3:Int)≠7 by decide),_,by assumption,rfl,rfl⟩)|(obtain rfl:v9=4:=(by assumption);exact⟨⟨4,0,min v39 v41,max v39 v41,⟨[]⟩,0⟩,D6 (by omega) (by omega) (by omega),fun _=>(show(4:Int)≠7 by decide),_,by assumption,rfl,rfl⟩)|(obtain rfl:v9=5:=(by assumption);exact⟨⟨5,0,v53,v55,⟨[]⟩,0⟩,F4 (by omega) (by omega) (by omega) (by omega),fun _=>(show(5:Int)≠7 by decide),_,by assumption,rfl,rfl⟩)|(obtain rfl:v9=5:=(by assumption);exact⟨⟨5,0,v53,(v53+v64+1440 - 1) % 1440,⟨[]⟩,0⟩,F4 (by omega) (by omega) (by omega) (by omega),fun _=>(show(5:Int)≠7 by decide),_,by assumption,rfl,rfl⟩)|(obtain rfl:v9=6:=(by assumption);exact⟨_,I9 (by assumption),fun _=>(show(6:Int)≠7 by decide),_,by assumption,rfl,rfl⟩)|(obtain rfl:v9=7:=(by assumption);exact⟨⟨7,0,0,0,⟨[]⟩,v78⟩,F8 (by omega) (by omega),fun h=>(by subst h;simp at hc17),_,by assumption,rfl,rfl⟩)
 ·refine .q 14 hG ⟨fun hc21 => ?_,fun hc21 => ?_⟩
  ·refine .q 2 hG ?_
   refine .km hG (a1v _ _ _ (by assumption) (by decide)) .z2 (by rintro _ _ ⟨_,_,_,_,_,rfl⟩;exact⟨_,rfl⟩) fun r24 B24 hr24 => ?_
   obtain⟨m24,hm24,d24,hd24,rfl,hB⟩:=hr24
   cases hB
   refine .q 9 hG ?_
   refine⟨_,.r1 a8 (.cell E6 a8 .z1),?_⟩
   refine⟨_,.cons .z2 (.nil),?_⟩
   first|(exfalso;(try dsimp only at *);omega)|exact⟨⟨4,0,min v39 v41,max v39 v41,⟨[]⟩,0⟩,D6 (by omega) (by omega) (by omega),fun _=>(show(4:Int)≠7 by decide),_,by assumption,rfl,rfl⟩|(obtain rfl:v9=1:=(by assumption);exact⟨_,B1 (Or.inl rfl) (by assumption),fun _=>(show(1:Int)≠7 by decide),_,by assumption,rfl,rfl⟩)|(obtain rfl:v9=2:=(by assumption);exact⟨_,B1 (Or.inr (Or.inl rfl)) (by assumption),fun _=>(show(2:Int)≠7 by decide),_,by assumption,rfl,rfl⟩)|(obtain rfl:v9=3:=(by assumption);exact⟨_,B1 (Or.inr (Or.inr rfl)) (by assumption),fun _=>(show(3:Int)≠7 by decide),_,by assumption,rfl,rfl⟩)|(obtain rfl:v9=4:=(by assumption);exact⟨⟨4,0,min v39 v41,max v39 v41,⟨[]⟩,0⟩,D6 (by omega) (by omega) (by omega),fun _=>(show(4:Int)≠7 by decide),_,by assumption,rfl,rfl⟩)|(obtain rfl:v9=5:=(by assumption);exact⟨⟨5,0,v53,v55,⟨[]⟩,0⟩,F4 (by omega) (by omega) (by omega) (by omega),fun _=>(show(5:Int)≠7 by decide),_,by assumption,rfl,rfl⟩)|(obtain rfl:v9=5:=(by assumption);exact⟨⟨5,0,v53,(v53+v64+1440 - 1) % 1440,⟨[]⟩,0⟩,F4 (by omega) (by omega) (by omega) (by omega),fun _=>(show(5:Int)≠7 by decide),_,by assumption,rfl,rfl⟩)|(obtain rfl:v9=6:=(by assumption);exact⟨_,I9 (by assumption),fun _=>(show(6:Int)≠7 by decide),_,by assumption,rfl,rfl⟩)|(obtain rfl:v9=7:=(by assumption);exact⟨⟨7,0,0,0,⟨[]⟩,v78⟩,F8 (by omega) (by omega),fun h=>(by subst h;simp at hc17),_,by assumption,rfl,rfl⟩)
  ·refine .q 6 hG ⟨fun hc26 => ?_,fun hc26 => ?_⟩
   ·refine .q 2 hG ?_
    refine .km hG (a1v _ _ _ (by assumption) (by decide)) .z2 (by rintro _ _ ⟨_,_,_,_,_,rfl⟩;exact⟨_,rfl⟩) fun r29 B29 hr29 => ?_
    obtain⟨m29,hm29,d29,hd29,rfl,hB⟩:=hr29
    cases hB
    refine .q 9 hG ?_
    refine⟨_,.r1 a8 (.cell E6 a8 .z1),?_⟩
    refine⟨_,.cons .z2 (.nil),?_⟩
    first|(exfalso;(try dsimp only at *);omega)|exact⟨⟨4,0,min v39 v41,max v39 v41,⟨[]⟩,0⟩,D6 (by omega) (by omega) (by omega),fun _=>(show(4:Int)≠7 by decide),_,by assumption,rfl,rfl⟩|(obtain rfl:v9=1:=(by assumption);exact⟨_,B1 (Or.inl rfl) (by assumption),fun _=>(show(1:Int)≠7 by decide),_,by assumption,rfl,rfl⟩)|(obtain rfl:v9=2:=(by assumption);exact⟨_,B1 (Or.inr (Or.inl rfl)) (by assumption),fun _=>(show(2:Int)≠7 by decide),_,by assumption,rfl,rfl⟩)|(obtain rfl:v9=3:=(by assumption);exact⟨_,B1 (Or.inr (Or.inr rfl)) (by assumption),fun _=>(show(3:Int)≠7 by decide),_,by assumption,rfl,rfl⟩)|(obtain rfl:v9=4:=(by assumption);exact⟨⟨4,0,min v39 v41,max v39 v41,⟨[]⟩,0⟩,D6 (by omega) (by omega) (by omega),fun _=>(show(4:Int)≠7 by decide),_,by assumption,rfl,rfl⟩)|(obtain rfl:v9=5:=(by assumption);exact⟨⟨5,0,v53,v55,⟨[]⟩,0⟩,F4 (by omega) (by omega) (by omega) (by omega),fun _=>(show(5:Int)≠7 by decide),_,by assumption,rfl,rfl⟩)|(obtain rfl:v9=5:=(by assumption);exact⟨⟨5,0,v53,(v53+v64+1440 - 1) % 1440,⟨[]⟩,0⟩,F4 (by omega) (by omega) (by omega) (by omega),fun _=>(show(5:Int)≠7 by decide),_,by assumption,rfl,rfl⟩)|(obtain rfl:v9=6:=(by assumption);exact⟨_,I9 (by assumption),fun _=>(show(6:Int)≠7 by decide),_,by assumption,rfl,rfl⟩)|(obtain rfl:v9=7:=(by assumption);exact⟨⟨7,0,0,0,⟨[]⟩,v78⟩,F8 (by omega) (by omega),fun h=>(by subst h;simp at hc17),_,by assumption,rfl,rfl⟩)
   ·refine .q 6 hG ⟨fun hc31 => ?_,fun hc31 => ?_⟩
    ·refine .q 2 hG ?_
     refine .km hG (a1v _ _ _ (by assumption) (by decide)) .z2 (by rintro _ _ ⟨_,_,_,_,_,rfl⟩;exact⟨_,rfl⟩) fun r34 B34 hr34 => ?_
     obtain⟨m34,hm34,d34,hd34,rfl,hB⟩:=hr34
     cases hB
     refine .q 9 hG ?_
     refine⟨_,.r1 a8 (.cell E6 a8 .z1),?_⟩
     refine⟨_,.cons .z2 (.nil),?_⟩
     first|(exfalso;(try dsimp only at *);omega)|exact⟨⟨4,0,min v39 v41,max v39 v41,⟨[]⟩,0⟩,D6 (by omega) (by omega) (by omega),fun _=>(show(4:Int)≠7 by decide),_,by assumption,rfl,rfl⟩|(obtain rfl:v9=1:=(by assumption);exact⟨_,B1 (Or.inl rfl) (by assumption),fun _=>(show(1:Int)≠7 by decide),_,by assumption,rfl,rfl⟩)|(obtain rfl:v9=2:=(by assumption);exact⟨_,B1 (Or.inr (Or.inl rfl)) (by assumption),fun _=>(show(2:Int)≠7 by decide),_,by assumption,rfl,rfl⟩)|(obtain rfl:v9=3:=(by assumption);exact⟨_,B1 (Or.inr (Or.inr rfl)) (by assumption),fun _=>(show(3:Int)≠7 by decide),_,by assumption,rfl,rfl⟩)|(obtain rfl:v9=4:=(by assumption);exact⟨⟨4,0,min v39 v41,max v39 v41,⟨[]⟩,0⟩,D6 (by omega) (by omega) (by omega),fun _=>(show(4:Int)≠7 by decide),_,by assumption,rfl,rfl⟩)|(obtain rfl:v9=5:=(by assumption);exact⟨⟨5,0,v53,v55,⟨[]⟩,0⟩,F4 (by omega) (by omega) (by omega) (by omega),fun _=>(show(5:Int)≠7 by decide),_,by assumption,rfl,rfl⟩)|(obtain rfl:v9=5:=(by assumption);exact⟨⟨5,0,v53,(v53+v64+1440 - 1) % 1440,⟨[]⟩,0⟩,F4 (by omega) (by omega) (by omega) (by omega),fun _=>(show(5:Int)≠7 by decide),_,by assumption,rfl,rfl⟩)|(obtain rfl:v9=6:=(by assumption);exact⟨_,I9 (by assumption),fun _=>(show(6:Int)≠7 by decide),_,by assumption,rfl,rfl⟩)|(obtain rfl:v9=7:=(by assumption);exact⟨⟨7,0,0,0,⟨[]⟩,v78⟩,F8 (by omega) (by omega),fun h=>(by subst h;simp at hc17),_,by assumption,rfl,rfl⟩)
    ·refine .q 6 hG ⟨fun hc36 => ?_,fun hc36 => ?_⟩
     ·refine .q 3 hG ?_
      refine .km hG (V9 _ _ (by assumption)) .z2 (by rintro _ _ ⟨_,_,_,_,_,_,rfl⟩;exact⟨_,rfl⟩) fun r39 B39 hr39 => ?_
      obtain⟨v39,h039,h139,d39,hd39,rfl,hB⟩:=hr39
      cases hB
      refine .q 1 hG ?_
      refine .km hG (V9 _ _ (by assumption)) .z2 (by rintro _ _ ⟨_,_,_,_,_,_,rfl⟩;exact⟨_,rfl⟩) fun r41 B41 hr41 => ?_
      obtain⟨v41,h041,h141,d41,hd41,rfl,hB⟩:=hr41
      cases hB
      refine .q 6 hG ?_
      refine .p (.a4C (.t a8) (.t a8) ?_)
      refine .q 2 hG ?_
      refine .p (.b1u (.t a8) (.t a8) ?_)
      refine .q 11 hG ?_
      refine⟨_,.r1 a8 (.cell E6 a8 .z1),?_⟩
      refine⟨_,.cons .z2 (.nil),?_⟩
      first|(exfalso;(try dsimp only at *);omega)|exact⟨⟨4,0,min v39 v41,max v39 v41,⟨[]⟩,0⟩,D6 (by omega) (by omega) (by omega),fun _=>(show(4:Int)≠7 by decide),_,by assumption,rfl,rfl⟩|(obtain rfl:v9=1:=(by assumption);exact⟨_,B1 (Or.inl rfl) (by assumption),fun _=>(show(1:Int)≠7 by decide),_,by assumption,rfl,rfl⟩)|(obtain rfl:v9=2:=(by assumption);exact⟨_,B1 (Or.inr (Or.inl rfl)) (by assumption),fun _=>(show(2:Int)≠7 by decide),_,by assumption,rfl,rfl⟩)|(obtain rfl:v9=3:=(by assumption);exact⟨_,B1 (Or.inr (Or.inr rfl)) (by assumption),fun _=>(show(3:Int)≠7 by decide),_,by assumption,rfl,rfl⟩)|(obtain rfl:v9=4:=(by assumption);exact⟨⟨4,0,min v39 v41,max v39 v41,⟨[]⟩,0⟩,D6 (by omega) (by omega) (by omega),fun _=>(show(4:Int)≠7 by decide),_,by assumption,rfl,rfl⟩)|(obtain rfl:v9=5:=(by assumption);exact⟨⟨5,0,v53,v55,⟨[]⟩,0⟩,F4 (by omega) (by omega) (by omega) (by omega),fun _=>(show(5:Int)≠7 by decide),_,by assumption,rfl,rfl⟩)|(obtain rfl:v9=5:=(by assumption);exact⟨⟨5,0,v53,(v53+v64+1440 - 1) % 1440,⟨[]⟩,0⟩,F4 (by omega) (by omega) (by omega) (by omega),fun _=>(show(5:Int)≠7 by decide),_,by assumption,rfl,rfl⟩)|(obtain rfl:v9=6:=(by assumption);exact⟨_,I9 (by assumption),fun _=>(show(6:Int)≠7 by decide),_,by assumption,rfl,rfl⟩)|(obtain rfl:v9=7:=(by assumption);exact⟨⟨7,0,0,0,⟨[]⟩,v78⟩,F8 (by omega) (by omega),fun h=>(by subst h;simp at hc17),_,by assumption,rfl,rfl⟩)
     ·refine .q 6 hG ⟨fun hc50 => ?_,fun hc50 => ?_⟩
      ·refine .q 3 hG ?_
       refine .km hG (x5 _ _ _ (by first|assumption|exact l8 _) (by first|omega|(simp;done)|(simp;omega)|(simp at *;omega)) (by first|omega|(simp;done)|(simp;omega)|(simp at *;omega))) .z2 (by rintro _ _ ⟨_,_,_,_,_,_,rfl⟩;exact⟨_,rfl⟩) fun r53 B53 hr53 => ?_
       obtain⟨v53,d53,h053,h153,hd53,rfl,hB⟩:=hr53
       cases hB
       refine .q 1 hG ?_
       refine .km hG (x5 _ _ _ (by first|assumption|exact l8 _) (by first|omega|(simp;done)|(simp;omega)|(simp at *;omega)) (by first|omega|(simp;done)|(simp;omega)|(simp at *;omega))) .z2 (by rintro _ _ ⟨_,_,_,_,_,_,rfl⟩;exact⟨_,rfl⟩) fun r55 B55 hr55 => ?_
       obtain⟨v55,d55,h055,h155,hd55,rfl,hB⟩:=hr55
       cases hB
       refine .q 8 hG ?_
       refine .km hG (x5 _ _ _ (by first|assumption|exact l8 _) (by first|omega|(simp;done)|(simp;omega)|(simp at *;omega)) (by first|omega|(simp;done)|(simp;omega)|(simp at *;omega))) .z2 (by rintro _ _ ⟨_,_,_,_,_,_,rfl⟩;exact⟨_,rfl⟩) fun r59 B59 hr59 => ?_
       obtain⟨v59,d59,h059,h159,hd59,rfl,hB⟩:=hr59
       cases hB
       refine .q 3 hG ⟨fun hc60 => ?_,fun hc60 => ?_⟩
       ·refine .D7 [j1,j1,j0] (by kernel_rfl) 9 [[],[(61,0)],[],[(63,2)],[(62,1),(64,3)],[(65,4)],[(66,5)],[(67,6)],[]] [3,4,5,6,7] a8 (by kernel_rfl) a8 (by kernel_rfl) (by decide) ?_
        refine⟨_,fun H=>j7.y7 j3.l2 H4 a8 (.t a8) a8,?_⟩
        refine⟨_,fun H=>j7.ldF (fun x=>x.J5) A3 (.t a8) (C1.app .z) (fun _=>a8) a8,?_⟩
        refine⟨_,fun H=>j7.move (.t a8) a8,?_⟩
        refine .inl (.inl (.inl (.inl (.inl ?_))))
        refine⟨_,fun H=>j7.y7 j3.l3 H5 a8 (.t a8) a8,?_⟩
        refine⟨⟨([],j2 [c8,c8,_]),a8⟩,?_⟩
        refine A9.H9 hG (x5 _ _ _ (by first|assumption|exact l8 _) (by first|omega|(simp;done)|(simp;omega)|(simp at *;omega)) (by first|omega|(simp;done)|(simp;omega)|(simp at *;omega))) .z2 (.cons (.t rfl) (.cons (.i rfl) .nil)) (by rintro _ _ ⟨_,_,_,_,_,_,rfl⟩;exact⟨_,rfl⟩) fun r64 B64 hr64 => ?_
        obtain⟨v64,d64,h064,h164,hd64,rfl,hB⟩:=hr64
        cases hB
        refine⟨⟨([],j2 [c8,c8,_]),a8⟩,?_⟩
        refine A9.ofP (j7.add (.t rfl) (.t rfl) (by first|omega|(simp;done)|(simp;omega)|(simp at *;omega)) (by first|omega|(simp;done)|(simp;omega)|(simp at *;omega)) ?_)
        refine⟨⟨([],j2 [c8,c8,_]),a8⟩,?_⟩
        refine A9.ofP (j7.add (.t rfl) (.i rfl) (by first|omega|(simp;done)|(simp;omega)|(simp at *;omega)) (by first|omega|(simp;done)|(simp;omega)|(simp at *;omega)) ?_)
        refine⟨⟨([],j2 [c8,c8,_]),a8⟩,?_⟩
        refine A9.ofP (j7.sub (.t rfl) (.i rfl) (by first|omega|(simp;done)|(simp;omega)|(simp at *;omega)) (by first|omega|(simp;done)|(simp;omega)|(simp at *;omega)) ?_)
        refine⟨⟨([],j2 [c8,c8,_]),a8⟩,?_⟩
        refine A9.ofP (j7.rem (.t rfl) (.i rfl) (by first|omega|(simp;done)|(simp;omega)|(simp at *;omega)) (by first|omega|(simp;done)|(simp;omega)|(simp at *;omega)) ?_)
        refine⟨⟨([],j2 [c8,c8,_]),a8⟩,?_⟩
        show C4 _ _ _ _ _ [_] ((69,_)::(68,_)::(67,_)::(66,_)::(65,_)::(64,_)::(63,_)::(62,_)::(61,_)::_) _
        refine .q 8 hG ?_
        refine⟨_,.r1 a8 (.cell E6 a8 .z1),?_⟩
        refine⟨_,.cons .z2 (.nil),?_⟩
        first|(exfalso;(try dsimp only at *);omega)|exact⟨⟨4,0,min v39 v41,max v39 v41,⟨[]⟩,0⟩,D6 (by omega) (by omega) (by omega),fun _=>(show(4:Int)≠7 by decide),_,by assumption,rfl,rfl⟩|(obtain rfl:v9=1:=(by assumption);exact⟨_,B1 (Or.inl rfl) (by assumption),fun _=>(show(1:Int)≠7 by decide),_,by assumption,rfl,rfl⟩)|(obtain rfl:v9=2:=(by assumption);exact⟨_,B1 (Or.inr (Or.inl rfl)) (by assumption),fun _=>(show(2:Int)≠7 by decide),_,by assumption,rfl,rfl⟩)|(obtain rfl:v9=3:=(by assumption);exact⟨_,B1 (Or.inr (Or.inr rfl)) (by assumption),fun _=>(show(3:Int)≠7 by decide),_,by assumption,rfl,rfl⟩)|(obtain rfl:v9=4:=(by assumption);exact⟨⟨4,0,min v39 v41,max v39 v41,⟨[]⟩,0⟩,D6 (by omega) (by omega) (by omega),fun _=>(show(4:Int)≠7 by decide),_,by assumption,rfl,rfl⟩)|(obtain rfl:v9=5:=(by assumption);exact⟨⟨5,0,v53,v55,⟨[]⟩,0⟩,F4 (by omega) (by omega) (by omega) (by omega),fun _=>(show(5:Int)≠7 by decide),_,by assumption,rfl,rfl⟩)|(obtain rfl:v9=5:=(by assumption);exact⟨⟨5,0,v53,(v53+v64+1440 - 1) % 1440,⟨[]⟩,0⟩,F4 (by omega) (by omega) (by omega) (by omega),fun _=>(show(5:Int)≠7 by decide),_,by assumption,rfl,rfl⟩)|(obtain rfl:v9=6:=(by assumption);exact⟨_,I9 (by assumption),fun _=>(show(6:Int)≠7 by decide),_,by assumption,rfl,rfl⟩)|(obtain rfl:v9=7:=(by assumption);exact⟨⟨7,0,0,0,⟨[]⟩,v78⟩,F8 (by omega) (by omega),fun h=>(by subst h;simp at hc17),_,by assumption,rfl,rfl⟩)
       ·refine .q 7 hG ?_
        refine⟨_,.r1 a8 (.cell E6 a8 .z1),?_⟩
        refine⟨_,.cons .z2 (.nil),?_⟩
        first|(exfalso;(try dsimp only at *);omega)|exact⟨⟨4,0,min v39 v41,max v39 v41,⟨[]⟩,0⟩,D6 (by omega) (by omega) (by omega),fun _=>(show(4:Int)≠7 by decide),_,by assumption,rfl,rfl⟩|(obtain rfl:v9=1:=(by assumption);exact⟨_,B1 (Or.inl rfl) (by assumption),fun _=>(show(1:Int)≠7 by decide),_,by assumption,rfl,rfl⟩)|(obtain rfl:v9=2:=(by assumption);exact⟨_,B1 (Or.inr (Or.inl rfl)) (by assumption),fun _=>(show(2:Int)≠7 by decide),_,by assumption,rfl,rfl⟩)|(obtain rfl:v9=3:=(by assumption);exact⟨_,B1 (Or.inr (Or.inr rfl)) (by assumption),fun _=>(show(3:Int)≠7 by decide),_,by assumption,rfl,rfl⟩)|(obtain rfl:v9=4:=(by assumption);exact⟨⟨4,0,min v39 v41,max v39 v41,⟨[]⟩,0⟩,D6 (by omega) (by omega) (by omega),fun _=>(show(4:Int)≠7 by decide),_,by assumption,rfl,rfl⟩)|(obtain rfl:v9=5:=(by assumption);exact⟨⟨5,0,v53,v55,⟨[]⟩,0⟩,F4 (by omega) (by omega) (by omega) (by omega),fun _=>(show(5:Int)≠7 by decide),_,by assumption,rfl,rfl⟩)|(obtain rfl:v9=5:=(by assumption);exact⟨⟨5,0,v53,(v53+v64+1440 - 1) % 1440,⟨[]⟩,0⟩,F4 (by omega) (by omega) (by omega) (by omega),fun _=>(show(5:Int)≠7 by decide),_,by assumption,rfl,rfl⟩)|(obtain rfl:v9=6:=(by assumption);exact⟨_,I9 (by assumption),fun _=>(show(6:Int)≠7 by decide),_,by assumption,rfl,rfl⟩)|(obtain rfl:v9=7:=(by assumption);exact⟨⟨7,0,0,0,⟨[]⟩,v78⟩,F8 (by omega) (by omega),fun h=>(by subst h;simp at hc17),_,by assumption,rfl,rfl⟩)
      ·refine .q 6 hG ⟨fun hc70 => ?_,fun hc70 => ?_⟩
       ·refine .q 2 hG ?_
        refine .km hG (a8n _ _ (by assumption)) .z2 (by rintro _ _ ⟨_,_,_,_,_,rfl⟩;exact⟨_,rfl⟩) fun r73 B73 hr73 => ?_
        obtain⟨s73,hs73,d73,hd73,rfl,hB⟩:=hr73
        cases hB
        refine .q 9 hG ?_
        refine⟨_,.r1 a8 (.cell E6 a8 .z1),?_⟩
        refine⟨_,.cons .z2 (.nil),?_⟩
        first|(exfalso;(try dsimp only at *);omega)|exact⟨⟨4,0,min v39 v41,max v39 v41,⟨[]⟩,0⟩,D6 (by omega) (by omega) (by omega),fun _=>(show(4:Int)≠7 by decide),_,by assumption,rfl,rfl⟩|(obtain rfl:v9=1:=(by assumption);exact⟨_,B1 (Or.inl rfl) (by assumption),fun _=>(show(1:Int)≠7 by decide),_,by assumption,rfl,rfl⟩)|(obtain rfl:v9=2:=(by assumption);exact⟨_,B1 (Or.inr (Or.inl rfl)) (by assumption),fun _=>(show(2:Int)≠7 by decide),_,by assumption,rfl,rfl⟩)|(obtain rfl:v9=3:=(by assumption);exact⟨_,B1 (Or.inr (Or.inr rfl)) (by assumption),fun _=>(show(3:Int)≠7 by decide),_,by assumption,rfl,rfl⟩)|(obtain rfl:v9=4:=(by assumption);exact⟨⟨4,0,min v39 v41,max v39 v41,⟨[]⟩,0⟩,D6 (by omega) (by omega) (by omega),fun _=>(show(4:Int)≠7 by decide),_,by assumption,rfl,rfl⟩)|(obtain rfl:v9=5:=(by assumption);exact⟨⟨5,0,v53,v55,⟨[]⟩,0⟩,F4 (by omega) (by omega) (by omega) (by omega),fun _=>(show(5:Int)≠7 by decide),_,by assumption,rfl,rfl⟩)|(obtain rfl:v9=5:=(by assumption);exact⟨⟨5,0,v53,(v53+v64+1440 - 1) % 1440,⟨[]⟩,0⟩,F4 (by omega) (by omega) (by omega) (by omega),fun _=>(show(5:Int)≠7 by decide),_,by assumption,rfl,rfl⟩)|(obtain rfl:v9=6:=(by assumption);exact⟨_,I9 (by assumption),fun _=>(show(6:Int)≠7 by decide),_,by assumption,rfl,rfl⟩)|(obtain rfl:v9=7:=(by assumption);exact⟨⟨7,0,0,0,⟨[]⟩,v78⟩,F8 (by omega) (by omega),fun h=>(by subst h;simp at hc17),_,by assumption,rfl,rfl⟩)
       ·refine .q 6 hG ⟨fun hc75 => ?_,fun hc75 => ?_⟩
        ·refine .q 2 hG ?_
         refine .km hG (b3I _ _ _ (by assumption) (by decide) (by decide)) .z2 (by rintro _ _ ⟨_,_,_,_,_,_,rfl⟩;exact⟨_,rfl⟩) fun r78 B78 hr78 => ?_
         obtain⟨v78,h078,h178,d78,hd78,rfl,hB⟩:=hr78
         cases hB
         refine .q 9 hG ?_
         refine⟨_,.r1 a8 (.cell E6 a8 .z1),?_⟩
         refine⟨_,.cons .z2 (.nil),?_⟩
         first|(exfalso;(try dsimp only at *);omega)|exact⟨⟨4,0,min v39 v41,max v39 v41,⟨[]⟩,0⟩,D6 (by omega) (by omega) (by omega),fun _=>(show(4:Int)≠7 by decide),_,by assumption,rfl,rfl⟩|(obtain rfl:v9=1:=(by assumption);exact⟨_,B1 (Or.inl rfl) (by assumption),fun _=>(show(1:Int)≠7 by decide),_,by assumption,rfl,rfl⟩)|(obtain rfl:v9=2:=(by assumption);exact⟨_,B1 (Or.inr (Or.inl rfl)) (by assumption),fun _=>(show(2:Int)≠7 by decide),_,by assumption,rfl,rfl⟩)|(obtain rfl:v9=3:=(by assumption);exact⟨_,B1 (Or.inr (Or.inr rfl)) (by assumption),fun _=>(show(3:Int)≠7 by decide),_,by assumption,rfl,rfl⟩)|(obtain rfl:v9=4:=(by assumption);exact⟨⟨4,0,min v39 v41,max v39 v41,⟨[]⟩,0⟩,D6 (by omega) (by omega) (by omega),fun _=>(show(4:Int)≠7 by decide),_,by assumption,rfl,rfl⟩)|(obtain rfl:v9=5:=(by assumption);exact⟨⟨5,0,v53,v55,⟨[]⟩,0⟩,F4 (by omega) (by omega) (by omega) (by omega),fun _=>(show(5:Int)≠7 by decide),_,by assumption,rfl,rfl⟩)|(obtain rfl:v9=5:=(by assumption);exact⟨⟨5,0,v53,(v53+v64+1440 - 1) % 1440,⟨[]⟩,0⟩,F4 (by omega) (by omega) (by omega) (by omega),fun _=>(show(5:Int)≠7 by decide),_,by assumption,rfl,rfl⟩)|(obtain rfl:v9=6:=(by assumption);exact⟨_,I9 (by assumption),fun _=>(show(6:Int)≠7 by decide),_,by assumption,rfl,rfl⟩)|(obtain rfl:v9=7:=(by assumption);exact⟨⟨7,0,0,0,⟨[]⟩,v78⟩,F8 (by omega) (by omega),fun h=>(by subst h;simp at hc17),_,by assumption,rfl,rfl⟩)
        ·refine .q 7 hG ?_
         refine⟨_,.r1 a8 (.cell E6 a8 .z1),?_⟩
         refine⟨_,.cons .z2 (.nil),?_⟩
         first|(exfalso;(try dsimp only at *);omega)|exact⟨⟨4,0,min v39 v41,max v39 v41,⟨[]⟩,0⟩,D6 (by omega) (by omega) (by omega),fun _=>(show(4:Int)≠7 by decide),_,by assumption,rfl,rfl⟩|(obtain rfl:v9=1:=(by assumption);exact⟨_,B1 (Or.inl rfl) (by assumption),fun _=>(show(1:Int)≠7 by decide),_,by assumption,rfl,rfl⟩)|(obtain rfl:v9=2:=(by assumption);exact⟨_,B1 (Or.inr (Or.inl rfl)) (by assumption),fun _=>(show(2:Int)≠7 by decide),_,by assumption,rfl,rfl⟩)|(obtain rfl:v9=3:=(by assumption);exact⟨_,B1 (Or.inr (Or.inr rfl)) (by assumption),fun _=>(show(3:Int)≠7 by decide),_,by assumption,rfl,rfl⟩)|(obtain rfl:v9=4:=(by assumption);exact⟨⟨4,0,min v39 v41,max v39 v41,⟨[]⟩,0⟩,D6 (by omega) (by omega) (by omega),fun _=>(show(4:Int)≠7 by decide),_,by assumption,rfl,rfl⟩)|(obtain rfl:v9=5:=(by assumption);exact⟨⟨5,0,v53,v55,⟨[]⟩,0⟩,F4 (by omega) (by omega) (by omega) (by omega),fun _=>(show(5:Int)≠7 by decide),_,by assumption,rfl,rfl⟩)|(obtain rfl:v9=5:=(by assumption);exact⟨⟨5,0,v53,(v53+v64+1440 - 1) % 1440,⟨[]⟩,0⟩,F4 (by omega) (by omega) (by omega) (by omega),fun _=>(show(5:Int)≠7 by decide),_,by assumption,rfl,rfl⟩)|(obtain rfl:v9=6:=(by assumption);exact⟨_,I9 (by assumption),fun _=>(show(6:Int)≠7 by decide),_,by assumption,rfl,rfl⟩)|(obtain rfl:v9=7:=(by assumption);exact⟨⟨7,0,0,0,⟨[]⟩,v78⟩,F8 (by omega) (by omega),fun h=>(by subst h;simp at hc17),_,by assumption,rfl,rfl⟩)
theorem T9 {l:List Pred} {p:Pred} (h:∀ q∈l,p8 q=true) (hp:p8 p=true):∀ q∈l ++ [p],p8 q=true:=fun q hq=>by
 rcases List.mem_append.1 hq with h'|h'
 ·exact h q h'
 ·rw [List.mem_singleton.1 h'];exact hp
theorem P1 (w:Value) (d:j9) (n:Int) (s:u0) (hd:C7 d) (h0:0≤n) (h1:n≤1000) (hs:u7 s=true):E1 gl prog 30 [dk w,.v n,.v s] [.ob w d] (fun r Hs=>∃ l:List Pred,(l.length:Int)≤n∧(∀ p∈l,p8 p=true)∧∃ d',C7 d'∧r = .v l∧Hs = [.ob w d']):=by
 refine E1.a5T func30 rfl (by kernel_rfl) 58 rfl rfl _ rfl _ rfl fun C hC hG => ?_
 refine .q 6 hG ?_
 refine .p (.assign .raw ?_)
 refine .q 3 hG ?_
 refine .V0 39 Pred ?_
 refine .q 3 hG ?_
 refine .ad (by first|omega|(simp;done)|(simp;omega)|(simp at *;omega)) (by first|omega|(simp;done)|(simp;omega)|(simp at *;omega)) ?_
 refine .km hG (x5 _ _ _ (by first|assumption|exact l8 _) (by first|omega|(simp;done)|(simp;omega)|(simp at *;omega)) (by first|omega|(simp;done)|(simp;omega)|(simp at *;omega))) .z1 (by rintro _ _ ⟨_,_,_,_,_,_,rfl⟩;exact⟨_,rfl⟩) fun r12 B12 hr12 => ?_
 obtain⟨v12,d12,h012,h112,hd12,rfl,hB⟩:=hr12
 cases hB
 refine .q 3 hG ?_
 refine .C2 (α:=Nat×Value×List Pred×j9) [(0,_),(2,_)] (fun x R=>(7,.raw x.2.1)::(8,.v (x.1:Int))::R) (fun x => [(true,.own 39 x.2.1 x.2.2.1),(false,.ob w x.2.2.2)]) (fun x=>(x.1:Int)+x.2.2.1.length≤n∧C7 x.2.2.2∧∀ p∈x.2.2.1,p8 p=true) (fun x=>x.1) ((v12.toNat,.slice none 0 0,[],d12)) (.c2 a8 a8 (.nil _)) ?_ (.cons a8 (.cons (congrArg (fun q=>some (AV.v q)) (by dsimp only;omega)) (.c2 a8 a8 (.nil _)))) (a8) fun x hF => ?_
 ·exact⟨by dsimp only;simp;omega,by assumption,by simp⟩
 obtain⟨k,v,b,e⟩:=x
 obtain⟨h2,h3,h4⟩:=hF
 dsimp only at h2 h3 h4 ⊢
 refine .q 7 hG ⟨fun hc14 => ?_,fun hc14 => ?_⟩
 ·refine .q 6 hG ?_
  refine .km hG (x5 _ _ _ (by first|assumption|exact l8 _) (by first|omega|(simp;done)|(simp;omega)|(simp at *;omega)) (by first|omega|(simp;done)|(simp;omega)|(simp at *;omega))) .z1 (by rintro _ _ ⟨_,_,_,_,_,_,rfl⟩;exact⟨_,rfl⟩) fun r18 B18 hr18 => ?_
  obtain⟨v18,d18,h018,h118,hd18,rfl,hB⟩:=hr18
  cases hB
  refine .q 8 hG ⟨fun hc19 => ?_,fun hc19 => ?_⟩
  ·refine .q 2 hG ?_
   refine .p (.bS2 j3.l0 j3.l1 a8 E6 a0B (fun c0 c1=>(⟨c0,c1,0,0,⟨[]⟩,0⟩:j3)) (fun _ _=>a8) a8 a8 a8 (.i a8) (.u64 7 a8) ?_)
   refine .bs a8 (by decide) fun b23 => ?_
   refine .ap (by first|omega|(simp;done)|(simp;omega)|(simp at *;omega)) (by first|omega|(simp;done)|(simp;omega)|(simp at *;omega)) fun w24 => ?_
   refine .q 1 hG ?_
   refine .drop ?_
   refine .q 3 hG ?_
   refine .sb (by first|omega|(simp;done)|(simp;omega)|(simp at *;omega)) (by first|omega|(simp;done)|(simp;omega)|(simp at *;omega)) ?_
   refine .q 2 hG ?_
   refine⟨(k - 1,_,_,_),.cons rfl (.cons (congrArg (fun q=>some (AV.v q)) (by dsimp only;omega)) (.c2 rfl rfl (.nil _))),rfl,?_,by dsimp only;omega⟩
   first|(exfalso;omega)|(exfalso;simp_all;done)|(exfalso;simp at *;omega)|exact⟨by dsimp only;simp;omega,by assumption,T9 h4 (by first|assumption|exact I9 hs|exact D6 (by omega) (by omega) (by omega)|exact F8 (by omega) (by omega)|exact B1 (Or.inl rfl) (by decide))⟩
  ·refine .q 6 hG ⟨fun hc25 => ?_,fun hc25 => ?_⟩
   ·refine .q 3 hG ?_
    refine .km hG (x5 _ _ _ (by first|assumption|exact l8 _) (by first|omega|(simp;done)|(simp;omega)|(simp at *;omega)) (by first|omega|(simp;done)|(simp;omega)|(simp at *;omega))) .z1 (by rintro _ _ ⟨_,_,_,_,_,_,rfl⟩;exact⟨_,rfl⟩) fun r29 B29 hr29 => ?_
    obtain⟨v29,d29,h029,h129,hd29,rfl,hB⟩:=hr29
    cases hB
    refine .ad (by first|omega|(simp;done)|(simp;omega)|(simp at *;omega)) (by first|omega|(simp;done)|(simp;omega)|(simp at *;omega)) (.p (.bS3 j3.l0 j3.l2 j3.l3 a8 E6 a0B (fun c0 c2 c3=>(⟨c0,0,c2,c3,⟨[]⟩,0⟩:j3)) (fun _ _ _=>a8) a8 a8 a8 a8 (.i a8) (.i a8) (.t a8) ?_))
    refine .bs a8 (by decide) fun b32 => ?_
    refine .ap (by first|omega|(simp;done)|(simp;omega)|(simp at *;omega)) (by first|omega|(simp;done)|(simp;omega)|(simp at *;omega)) fun w33 => ?_
    refine .q 1 hG ?_
    refine .drop ?_
    refine .q 3 hG ?_
    refine .sb (by first|omega|(simp;done)|(simp;omega)|(simp at *;omega)) (by first|omega|(simp;done)|(simp;omega)|(simp at *;omega)) ?_
    refine .q 2 hG ?_
    refine⟨(k - 1,_,_,_),.cons rfl (.cons (congrArg (fun q=>some (AV.v q)) (by dsimp only;omega)) (.c2 rfl rfl (.nil _))),rfl,?_,by dsimp only;omega⟩
    first|(exfalso;omega)|(exfalso;simp_all;done)|(exfalso;simp at *;omega)|exact⟨by dsimp only;simp;omega,by assumption,T9 h4 (by first|assumption|exact I9 hs|exact D6 (by omega) (by omega) (by omega)|exact F8 (by omega) (by omega)|exact B1 (Or.inl rfl) (by decide))⟩
   ·refine .q 6 hG ⟨fun hc34 => ?_,fun hc34 => ?_⟩
    ·refine .q 3 hG ?_
     refine .p (.bS2 j3.l0 j3.l4 a8 E6 a0B (fun c0 c4=>(⟨c0,0,0,0,c4,0⟩:j3)) (fun _ _=>a8) a8 a8 a8 (.i a8) (.t a8) ?_)
     refine .bs a8 (by decide) fun b39 => ?_
     refine .ap (by first|omega|(simp;done)|(simp;omega)|(simp at *;omega)) (by first|omega|(simp;done)|(simp;omega)|(simp at *;omega)) fun w40 => ?_
     refine .q 1 hG ?_
     refine .drop ?_
     refine .q 3 hG ?_
     refine .sb (by first|omega|(simp;done)|(simp;omega)|(simp at *;omega)) (by first|omega|(simp;done)|(simp;omega)|(simp at *;omega)) ?_
     refine .q 2 hG ?_
     refine⟨(k - 1,_,_,_),.cons rfl (.cons (congrArg (fun q=>some (AV.v q)) (by dsimp only;omega)) (.c2 rfl rfl (.nil _))),rfl,?_,by dsimp only;omega⟩
     first|(exfalso;omega)|(exfalso;simp_all;done)|(exfalso;simp at *;omega)|exact⟨by dsimp only;simp;omega,by assumption,T9 h4 (by first|assumption|exact I9 hs|exact D6 (by omega) (by omega) (by omega)|exact F8 (by omega) (by omega)|exact B1 (Or.inl rfl) (by decide))⟩
    ·refine .q 6 hG ?_
     refine .cond (.t a8) (fun hc41 => ?_) (fun hc41 => ?_)
     ·refine .q 1 hG ?_
      refine .cond (.t a8) (fun hc41 => ?_) (fun hc41 => ?_)
      ·refine .q 3 hG ?_
       refine .km hG (x5 _ _ _ (by first|assumption|exact l8 _) (by first|omega|(simp;done)|(simp;omega)|(simp at *;omega)) (by first|omega|(simp;done)|(simp;omega)|(simp at *;omega))) .z1 (by rintro _ _ ⟨_,_,_,_,_,_,rfl⟩;exact⟨_,rfl⟩) fun r46 B46 hr46 => ?_
       obtain⟨v46,d46,h046,h146,hd46,rfl,hB⟩:=hr46
       cases hB
       refine .p (.bS2 j3.l0 j3.l5 a8 E6 a0B (fun c0 c5=>(⟨c0,0,0,0,⟨[]⟩,c5⟩:j3)) (fun _ _=>a8) a8 a8 a8 (.i a8) (.t a8) ?_)
       refine .bs a8 (by decide) fun b48 => ?_
       refine .ap (by first|omega|(simp;done)|(simp;omega)|(simp at *;omega)) (by first|omega|(simp;done)|(simp;omega)|(simp at *;omega)) fun w49 => ?_
       refine .q 1 hG ?_
       refine .drop ?_
       refine .q 3 hG ?_
       refine .sb (by first|omega|(simp;done)|(simp;omega)|(simp at *;omega)) (by first|omega|(simp;done)|(simp;omega)|(simp at *;omega)) ?_
       refine .q 2 hG ?_
       refine⟨(k - 1,_,_,_),.cons rfl (.cons (congrArg (fun q=>some (AV.v q)) (by dsimp only;omega)) (.c2 rfl rfl (.nil _))),rfl,?_,by dsimp only;omega⟩
       first|(exfalso;omega)|(exfalso;simp_all;done)|(exfalso;simp at *;omega)|exact⟨by dsimp only;simp;omega,by assumption,T9 h4 (by first|assumption|exact I9 hs|exact D6 (by omega) (by omega) (by omega)|exact F8 (by omega) (by omega)|exact B1 (Or.inl rfl) (by decide))⟩
      ·refine .q 6 hG ⟨fun hc50 => ?_,fun hc50 => ?_⟩
       ·refine .q 3 hG ?_
        refine .km hG (a0P _ _ _ (by assumption)) .z1 (by rintro _ _ ⟨_,_,_,_,_,_,rfl⟩;exact⟨_,rfl⟩) fun r54 B54 hr54 => ?_
        obtain⟨p54,hp54,hk54,d54,hd54,rfl,hB⟩:=hr54
        cases hB
        refine .bs a8 (by decide) fun b55 => ?_
        refine .ap (by first|omega|(simp;done)|(simp;omega)|(simp at *;omega)) (by first|omega|(simp;done)|(simp;omega)|(simp at *;omega)) fun w56 => ?_
        refine .q 1 hG ?_
        refine .drop ?_
        refine .q 3 hG ?_
        refine .sb (by first|omega|(simp;done)|(simp;omega)|(simp at *;omega)) (by first|omega|(simp;done)|(simp;omega)|(simp at *;omega)) ?_
        refine .q 2 hG ?_
        refine⟨(k - 1,_,_,_),.cons rfl (.cons (congrArg (fun q=>some (AV.v q)) (by dsimp only;omega)) (.c2 rfl rfl (.nil _))),rfl,?_,by dsimp only;omega⟩
        first|(exfalso;omega)|(exfalso;simp_all;done)|(exfalso;simp at *;omega)|exact⟨by dsimp only;simp;omega,by assumption,T9 h4 (by first|assumption|exact I9 hs|exact D6 (by omega) (by omega) (by omega)|exact F8 (by omega) (by omega)|exact B1 (Or.inl rfl) (by decide))⟩
       ·refine .q 3 hG ?_
        refine .sb (by first|omega|(simp;done)|(simp;omega)|(simp at *;omega)) (by first|omega|(simp;done)|(simp;omega)|(simp at *;omega)) ?_
        refine .q 2 hG ?_
        refine⟨(k - 1,_,_,_),.cons rfl (.cons (congrArg (fun q=>some (AV.v q)) (by dsimp only;omega)) (.c2 rfl rfl (.nil _))),rfl,?_,by dsimp only;omega⟩
        first|(exfalso;omega)|(exfalso;simp_all;done)|(exfalso;simp at *;omega)|exact⟨by dsimp only;simp;omega,by assumption,T9 h4 (by first|assumption|exact I9 hs|exact D6 (by omega) (by omega) (by omega)|exact F8 (by omega) (by omega)|exact B1 (Or.inl rfl) (by decide))⟩
     ·refine .q 4 hG ?_
      refine .cond (.t a8) (fun hc41 => ?_) (fun hc41 => ?_)
      ·refine .q 3 hG ?_
       refine .km hG (x5 _ _ _ (by first|assumption|exact l8 _) (by first|omega|(simp;done)|(simp;omega)|(simp at *;omega)) (by first|omega|(simp;done)|(simp;omega)|(simp at *;omega))) .z1 (by rintro _ _ ⟨_,_,_,_,_,_,rfl⟩;exact⟨_,rfl⟩) fun r46 B46 hr46 => ?_
       obtain⟨v46,d46,h046,h146,hd46,rfl,hB⟩:=hr46
       cases hB
       refine .p (.bS2 j3.l0 j3.l5 a8 E6 a0B (fun c0 c5=>(⟨c0,0,0,0,⟨[]⟩,c5⟩:j3)) (fun _ _=>a8) a8 a8 a8 (.i a8) (.t a8) ?_)
       refine .bs a8 (by decide) fun b48 => ?_
       refine .ap (by first|omega|(simp;done)|(simp;omega)|(simp at *;omega)) (by first|omega|(simp;done)|(simp;omega)|(simp at *;omega)) fun w49 => ?_
       refine .q 1 hG ?_
       refine .drop ?_
       refine .q 3 hG ?_
       refine .sb (by first|omega|(simp;done)|(simp;omega)|(simp at *;omega)) (by first|omega|(simp;done)|(simp;omega)|(simp at *;omega)) ?_
       refine .q 2 hG ?_
       refine⟨(k - 1,_,_,_),.cons rfl (.cons (congrArg (fun q=>some (AV.v q)) (by dsimp only;omega)) (.c2 rfl rfl (.nil _))),rfl,?_,by dsimp only;omega⟩
       first|(exfalso;omega)|(exfalso;simp_all;done)|(exfalso;simp at *;omega)|exact⟨by dsimp only;simp;omega,by assumption,T9 h4 (by first|assumption|exact I9 hs|exact D6 (by omega) (by omega) (by omega)|exact F8 (by omega) (by omega)|exact B1 (Or.inl rfl) (by decide))⟩
      ·refine .q 6 hG ⟨fun hc50 => ?_,fun hc50 => ?_⟩
       ·refine .q 3 hG ?_
        refine .km hG (a0P _ _ _ (by assumption)) .z1 (by rintro _ _ ⟨_,_,_,_,_,_,rfl⟩;exact⟨_,rfl⟩) fun r54 B54 hr54 => ?_
        obtain⟨p54,hp54,hk54,d54,hd54,rfl,hB⟩:=hr54
        cases hB
        refine .bs a8 (by decide) fun b55 => ?_
        refine .ap (by first|omega|(simp;done)|(simp;omega)|(simp at *;omega)) (by first|omega|(simp;done)|(simp;omega)|(simp at *;omega)) fun w56 => ?_
        refine .q 1 hG ?_
        refine .drop ?_
        refine .q 3 hG ?_
        refine .sb (by first|omega|(simp;done)|(simp;omega)|(simp at *;omega)) (by first|omega|(simp;done)|(simp;omega)|(simp at *;omega)) ?_
        refine .q 2 hG ?_
        refine⟨(k - 1,_,_,_),.cons rfl (.cons (congrArg (fun q=>some (AV.v q)) (by dsimp only;omega)) (.c2 rfl rfl (.nil _))),rfl,?_,by dsimp only;omega⟩
        first|(exfalso;omega)|(exfalso;simp_all;done)|(exfalso;simp at *;omega)|exact⟨by dsimp only;simp;omega,by assumption,T9 h4 (by first|assumption|exact I9 hs|exact D6 (by omega) (by omega) (by omega)|exact F8 (by omega) (by omega)|exact B1 (Or.inl rfl) (by decide))⟩
       ·refine .q 3 hG ?_
        refine .sb (by first|omega|(simp;done)|(simp;omega)|(simp at *;omega)) (by first|omega|(simp;done)|(simp;omega)|(simp at *;omega)) ?_
        refine .q 2 hG ?_
        refine⟨(k - 1,_,_,_),.cons rfl (.cons (congrArg (fun q=>some (AV.v q)) (by dsimp only;omega)) (.c2 rfl rfl (.nil _))),rfl,?_,by dsimp only;omega⟩
        first|(exfalso;omega)|(exfalso;simp_all;done)|(exfalso;simp at *;omega)|exact⟨by dsimp only;simp;omega,by assumption,T9 h4 (by first|assumption|exact I9 hs|exact D6 (by omega) (by omega) (by omega)|exact F8 (by omega) (by omega)|exact B1 (Or.inl rfl) (by decide))⟩
 ·refine .q 2 hG ?_
  refine .F0 hC .z (.as 7 a8 .z ?_)
  refine .q 5 hG ?_
  refine .e1 a8 a8 ?_
  exact⟨1,_,by omega,h4,_,h3,rfl,rfl⟩
open Go.Fl Go.Ab Go.Mac Go.Sha Go.Lib
def a2G:List u0 := [⟨[97,110,110]⟩,⟨[98,111,98]⟩,⟨[99,105,100]⟩,⟨[122,111,101]⟩,⟨[97]⟩]
theorem a4y (w:Value) (d:j9) (hd:C7 d):E1 gl prog 29 [dk w] [.ob w d] (fun r Hs=>∃ l:List y3,l.length≤5∧∃ d',C7 d'∧r = .v l∧Hs = [.ob w d']):=by
 refine E1.a5T func29 rfl (by kernel_rfl) 34 rfl rfl _ rfl _ rfl fun C hC hG => ?_
 refine .q 6 hG ?_
 refine .p (.assign .raw ?_)
 refine .q 2 hG ?_
 refine .V0 112 y3 ?_
 refine .q 1 hG ?_
 refine .bs a8 (by decide) fun b6 => ?_
 refine .q 4 hG ?_
 refine .F0 hC .z (.as 4 a8 .z (.drop ?_))
 refine .q 4 hG ?_
 refine .C2 (α:=Nat×Value×List y3×j9) [(0,_),(4,_)] (fun x R=>(3,.raw x.2.1)::(5,.v (x.1:Int))::R) (fun x => [(true,.own 112 x.2.1 x.2.2.1),(false,.ob w x.2.2.2)]) (fun x=>x.1≤5∧x.2.2.1.length=x.1∧C7 x.2.2.2) (fun x=>5 - x.1) ((0,.slice none 0 0,[],d)) (.c2 a8 a8 (.nil _)) ?_ (.c2 a8 a8 (.c2 a8 a8 (.nil _))) (a8) fun x hF => ?_
 ·exact⟨Nat.zero_le _,a8,hd⟩
 obtain⟨k,v,l,e⟩:=x
 obtain⟨h2,h3,h4⟩:=hF
 dsimp only at h2 h3 h4 ⊢
 refine .q 10 hG ?_
 refine .b5X 11 rfl (.t rfl) (fun i:Int×j9 => .v i.1) (fun i => [(true,.own 112 v l),(false,.ob w i.2)]) (fun i=>0≤i.1∧i.1 < 5∧C7 i.2) (0,e) ⟨Int.le_refl 0,by dsimp only;omega,h4⟩ rfl (fun hg14 => .H9 hG (x5 _ _ _ h4 (by decide) (by decide)) .z1 (.cons (.q rfl hg14) (.cons (.i rfl) .nil)) (by rintro _ _ ⟨_,_,_,_,_,_,rfl⟩;exact⟨_,rfl⟩) fun r14 B14 hr14=>by obtain⟨v14,d14,h014,h114,hd14,rfl,hB⟩:=hr14;cases hB;exact⟨(v14,d14),⟨h014,h114,hd14⟩,rfl,rfl⟩) fun i14 hi14 => ?_
 obtain⟨v14,e14⟩:=i14
 obtain⟨p1,p2,p3⟩:=hi14
 dsimp only at p1 p2 p3 ⊢
 refine .go 11 a8 (.t a8) (fun hg15 => .add (.i a8) (.q a8 hg15) (by first|omega|(simp;done)|(simp;omega)|(have:=hg15;simp at this;omega)) (by first|omega|(simp;done)|(simp;omega)|(have:=hg15;simp at this;omega)) a8) ?_
 refine .q 3 hG ?_
 refine .cond (.t a8) (fun hc17 => ?_) (fun hc17 => ?_)
 ·refine .q 3 hG ?_
  have hk5:k < 5:=(by simp at hc17;omega)
  have hkp:((k:Int)).toNat < a2G.length:=(show _ < 5 by omega)
  have hdn:=L6 (d:=e14) (n:=100) (by decide)
  refine(?_:H6 _ _ _ _ _ _ _)
  refine .b0z [⟨((j0,.own 112 v l)),[⟨12,12,fun v => .raw v.1,fun v=>(j0,.own 112 v.1 (l ++ [(⟨a2G[((k:Int)).toNat]'hkp,-(E3 e14 100).1*365*1440⟩:y3)]))⟩,⟨13,12,fun v => .raw v.1,fun v=>(j0,.own 112 v.1 (l ++ [(⟨a2G[((k:Int)).toNat]'hkp,-(E3 e14 100).1*365*1440⟩:y3)]))⟩]⟩,⟨((j1,.ob w e14)),[⟨6,6,fun v => .v (E3 e14 100).1,fun v=>(j1,.ob w (E3 e14 100).2)⟩]⟩] [12,13,6] [6] [[(12,12),(13,12)],[(6,6)]] (by kernel_rfl) 14 [[],[],[],[(21,1),(22,2)],[(23,3)],[],[(25,5)],[(26,6)],[(27,7)],[(28,8)],[(24,4),(29,9)],[(30,10)],[(20,0),(31,11)],[(32,12)]] a8 (by kernel_rfl) a8 a8 (by decide) (by kernel_rfl) ?_
  refine⟨_,fun H=>j7.move (.t a8) a8,?_⟩
  refine⟨_,fun H=>j7.move (.t a8) a8,?_⟩
  refine⟨_,fun H=>j7.move (.t a8) a8,?_⟩
  refine⟨_,fun H=>j7.idx ty9 underlying36 (.t a8) (.t a8) (by first|omega|(simp;done)|(simp;omega)|(simp at *;omega)) (by first|omega|(simp;done)|(simp;omega)|(simp at *;omega)) a8,?_⟩
  refine⟨_,fun H=>j7.F1 ty9 (.t a8) a8,?_⟩
  refine⟨_,fun H=>j7.move (.t a8) a8,?_⟩
  refine .inr ⟨.v (E3 e14 100).1,?_⟩
  refine⟨_,fun H=>j7.neg (.t a8) (by first|omega|(simp;done)|(simp;omega)|(simp at *;omega)) a8,?_⟩
  refine⟨_,fun H=>j7.mul (.t a8) (.i a8) (by first|omega|(simp;done)|(simp;omega)|(simp at *;omega)) (by first|omega|(simp;done)|(simp;omega)|(simp at *;omega)) a8,?_⟩
  refine⟨_,fun H=>j7.mul (.t a8) (.i a8) (by first|omega|(simp;done)|(simp;omega)|(simp at *;omega)) (by first|omega|(simp;done)|(simp;omega)|(simp at *;omega)) a8,?_⟩
  refine⟨_,fun H=>j7.bS2 y3.l0 y3.l1 a8 b0m b4c (fun c0 c1=>(⟨c0,c1⟩:y3)) (fun _ _=>a8) a8 a8 a8 (.t a8) (.t a8) a8,?_⟩
  refine⟨_,fun H=>j7.L5 (α:=y3) b0m underlying54 (.cons (.t a8) .nil) a8 (by decide) a8,?_⟩
  refine .inl (.inl ?_)
  refine⟨?_,?_,fun nm6 => ?_⟩
  ·exact(And.intro a8 (And.intro a8 (And.intro (fun _=>a8) trivial)))
  ·refine(And.intro (And.intro ?_ (And.intro ?_ trivial)) (And.intro (And.intro ?_ trivial) trivial))
   ·intro o s ho hs;obtain rfl:=Option.some.inj (show some _=some o from ho);obtain rfl:=Option.some.inj (show some _=some s from hs);refine⟨rfl,fun H' F hh=>A9.append b4u (.inl ⟨_,underlying54⟩) rfl hh (.v (.c rfl)) (by first|omega|(simp;done)|(simp;omega)|(simp at *;omega)) (by first|omega|(simp;done)|(simp;omega)|(simp at *;omega)) (fun w32=>⟨(_,0),rfl,rfl⟩) rfl⟩
   ·intro o s ho hs;obtain rfl:=Option.some.inj (show some _=some o from ho);obtain rfl:=Option.some.inj (show some _=some s from hs);refine⟨rfl,fun v H' F hh=>A9.ofP (j7.assign (.t rfl) ⟨_,.inr rfl,rfl,hh.self.symm⟩)⟩
   ·intro o s ho hs;obtain rfl:=Option.some.inj (show some _=some o from ho);obtain rfl:=Option.some.inj (show some _=some s from hs);refine⟨rfl,fun H' F hh=>A9.H9 hG (a01 _ _ _ p3 (by decide) (by decide)) hh (.cons (.t rfl) (.cons (.i rfl) .nil)) (by rintro _ _ ⟨_,rfl⟩;exact⟨_,rfl⟩) fun r26 B26 hr26=>(by obtain⟨rfl,hB⟩:=hr26;cases hB;exact⟨(undef,0),rfl,rfl⟩)⟩
  show C4 _ _ _ _ _ [] ((3,_)::(32,_)::(31,_)::(30,_)::(29,_)::(28,_)::(27,_)::(26,_)::(25,_)::(24,_)::(23,_)::(22,_)::(21,_)::(20,_)::_) ((true,.own 112 (nm6 12).1 (l ++ [(⟨a2G[((k:Int)).toNat]'hkp,-(E3 e14 100).1*365*1440⟩:y3)]))::(false,.ob w (E3 e14 100).2)::_)
  refine .q 2 hG ?_
  refine .mv a8 (.p (.add (.t a8) (.i a8) (by first|omega|(simp;done)|(simp;omega)|(simp at *;omega)) (by first|omega|(simp;done)|(simp;omega)|(simp at *;omega)) ?_))
  refine .q 2 hG ?_
  refine⟨(k+1,_,_,_),.c2 rfl rfl (.c2 rfl rfl (.nil _)),rfl,?_,by dsimp only;omega⟩
  exact⟨by dsimp only;omega,by simp;omega,K1 p3⟩
 ·refine .q 2 hG ?_
  refine .F0 hC .z (.as 3 a8 .z ?_)
  refine .q 5 hG ?_
  refine .e1 a8 a8 ?_
  exact⟨1,l,by omega,e14,p3,rfl,rfl⟩
structure b1b (c:p7):Prop where
 b6u:1≤c.a1S∧c.a1S≤3
 b5i:1≤c.X2∧c.X2≤3
theorem a4K (w:Value) (d:j9) (free:Bool) (hd:C7 d):E1 gl prog 15 [dk w,.v free] [.ob w d] (fun r Hs=>∃ c:p7,b1b c∧∃ d',C7 d'∧r = .v c∧Hs = [.ob w d']):=by
 refine E1.M7 func15 rfl (by kernel_rfl) 25 rfl rfl _ rfl _ rfl fun C hC hG => ?_
 refine .q 3 hG fun b4 => ?_
 refine .q 5 hG ?_
 refine .km hG (a7Q _ _ (by first|assumption|exact l8 _)) .z1 (by rintro _ _ ⟨_,_,_,_,rfl⟩;exact⟨_,rfl⟩) fun r8 B8 hr8 => ?_
 obtain⟨k8,d8,hd8,rfl,hB⟩:=hr8
 cases hB
 refine .q 1 hG ?_
 refine .km hG (K8 _ _ _ _ (by first|assumption|exact l8 _) (by first|omega|(simp;done)|(simp;omega)|(simp at *;omega)) (by first|omega|(simp;done)|(simp;omega)|(simp at *;omega)) (by first|omega|(simp;done)|(simp;omega)|(simp at *;omega))) .z1 (by rintro _ _ ⟨_,_,_,_,_,_,rfl⟩;exact⟨_,rfl⟩) fun r10 B10 hr10 => ?_
 obtain⟨v10,d10,h010,h110,hd10,rfl,hB⟩:=hr10
 cases hB
 refine .q 1 hG ?_
 refine .km hG (K8 _ _ _ _ (by first|assumption|exact l8 _) (by first|omega|(simp;done)|(simp;omega)|(simp at *;omega)) (by first|omega|(simp;done)|(simp;omega)|(simp at *;omega)) (by first|omega|(simp;done)|(simp;omega)|(simp at *;omega))) .z1 (by rintro _ _ ⟨_,_,_,_,_,_,rfl⟩;exact⟨_,rfl⟩) fun r12 B12 hr12 => ?_
 obtain⟨v12,d12,h012,h112,hd12,rfl,hB⟩:=hr12
 cases hB
 refine .q 1 hG ?_
 refine .km hG (x5 _ _ _ (by first|assumption|exact l8 _) (by first|omega|(simp;done)|(simp;omega)|(simp at *;omega)) (by first|omega|(simp;done)|(simp;omega)|(simp at *;omega))) .z1 (by rintro _ _ ⟨_,_,_,_,_,_,rfl⟩;exact⟨_,rfl⟩) fun r14 B14 hr14 => ?_
 obtain⟨v14,d14,h014,h114,hd14,rfl,hB⟩:=hr14
 cases hB
 refine .q 1 hG ?_
 refine .km hG (a4y _ _ (by assumption)) .z1 (by rintro _ _ ⟨_,_,_,_,_,rfl⟩;exact⟨_,rfl⟩) fun r16 B16 hr16 => ?_
 obtain⟨l16,hl16,d16,hd16,rfl,hB⟩:=hr16
 cases hB
 refine .p (.bS7 p7.l0 p7.l1 p7.l2 p7.l3 p7.l4 p7.l5 p7.l6 a8 b1F b5m (fun c0 c1 c2 c3 c4 c5 c6=>(⟨c0,c1,c2,c3,c4,c5,c6⟩:p7)) (fun _ _ _ _ _ _ _=>a8) a8 a8 a8 a8 a8 a8 a8 a8 (.t a8) (.t a8) (.t a8) (.t a8) (.t a8) (.i a8) (.t a8) ?_)
 refine .q 1 hG fun b5 => ?_
 refine .q 6 hG ?_
 refine .km hG (x5 _ _ _ (by first|assumption|exact l8 _) (by first|omega|(simp;done)|(simp;omega)|(simp at *;omega)) (by first|omega|(simp;done)|(simp;omega)|(simp at *;omega))) .z2 (by rintro _ _ ⟨_,_,_,_,_,_,rfl⟩;exact⟨_,rfl⟩) fun r19 B19 hr19 => ?_
 obtain⟨v19,d19,h019,h119,hd19,rfl,hB⟩:=hr19
 cases hB
 refine .q 3 hG ⟨fun hc20 => ?_,fun hc20 => ?_⟩
 ·refine .q 2 hG ?_
  refine .km hG (x5 _ _ _ (by first|assumption|exact l8 _) (by first|omega|(simp;done)|(simp;omega)|(simp at *;omega)) (by first|omega|(simp;done)|(simp;omega)|(simp at *;omega))) .z2 (by rintro _ _ ⟨_,_,_,_,_,_,rfl⟩;exact⟨_,rfl⟩) fun r22 B22 hr22 => ?_
  obtain⟨v22,d22,h022,h122,hd22,rfl,hB⟩:=hr22
  cases hB
  refine .q 9 hG ?_
  refine⟨_,.r1 a8 (.cell b1F a8 .z1),?_⟩
  refine⟨_,.cons .z2 (.nil),?_⟩
  exact⟨_,⟨⟨by dsimp only;omega,by dsimp only;omega⟩,⟨by dsimp only;omega,by dsimp only;omega⟩⟩,_,by assumption,rfl,rfl⟩
 ·refine .q 7 hG ?_
  refine⟨_,.r1 a8 (.cell b1F a8 .z1),?_⟩
  refine⟨_,.cons .z2 (.nil),?_⟩
  exact⟨_,⟨⟨by dsimp only;omega,by dsimp only;omega⟩,⟨by dsimp only;omega,by dsimp only;omega⟩⟩,_,by assumption,rfl,rfl⟩
end Go.Proofs.YtfkbejimghamkaaGreatDoor
