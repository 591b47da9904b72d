/- Plain Lean over any program, and walks of this seat's functions: contracts, each proved once (part 4). -/
import Derived.Test.YtmmclghiidoldaaGreatDoorZ3
set_option maxRecDepth 1000000
set_option synthInstance.maxSize 1000000
set_option synthInstance.maxHeartbeats 10000000
set_option linter.unusedVariables false
set_option linter.unusedSimpArgs false
namespace Go.Proofs.YtmmclghiidoldaaGreatDoor
open Go.Proofs.Tryz
open Go.Fl Go.Ab Go.Mac Go.Sha
abbrev Pred:=j3
def a1j (m:UInt64) (n:Int):Bool:=decide (m≠0)&&(decide (n=64)||decide (m >>> UInt64.ofNat n.toNat=0))
theorem b4j (m:UInt64) (n:Int) (h0:0≤n) (h1:n≤64):u1 gl prog 121 [.v m,.v n] (fun r=>r = .v (a1j m n)):=by
 refine u1.jn func121 (by kernel_rfl) 17 rfl fun C hC hG => ?_
 refine .q 11 hG ?_
 refine .goU 7 a8 (.t a8) (fun hg10 => .move (.q a8 hg10) a8) (.gn 10 a8 a8 (fun hc11 hg11 => .move (.t a8) a8) (.gn 10 a8 a8 (fun hc12 hg12 => .move (.t a8) a8) (.gn 10 a8 a8 (fun hc13 hg13 => .b4b (.ou a8 (Bool.and_eq_true_iff.2 ⟨hc13,beq_iff_eq.2 hg13⟩)) (.ou a8 (Bool.and_eq_true_iff.2 ⟨hc13,beq_iff_eq.2 hg13⟩)) (by first|omega|(simp;omega)|(have:=hg13;simp at this;omega)) (by first|omega|(simp;omega)|(have:=hg13;simp at this;omega)) a8) (.gn 10 a8 a8 (fun hc14 hg14 => .c08 (.ou a8 (Bool.and_eq_true_iff.2 ⟨hc14,beq_iff_eq.2 hg14⟩)) (.u64 0 a8) a8) (.go 7 a8 (.t a8) (fun hg15 => .a4u (.ou a8 (beq_iff_eq.2 hg15)) (fun hp=>(.ou a8 (Bool.and_eq_true_iff.2 ⟨(beq_iff_eq.2 hg15),beq_iff_eq.2 hp⟩))) a8) ?_)))))
 refine .q 4 hG ?_
 refine .e1 a8 a8 ?_
 rfl
theorem a5Q (s:Str):u1 gl prog 122 [.v s] (fun r=>r = .v (T8 s)):=by
 refine u1.jn func122 (by kernel_rfl) 28 rfl fun C hC hG => ?_
 refine .q 6 hG ?_
 refine .a9E 0 a8 fun hs => ?_
 refine .q 10 hG ?_
 refine .cond (.t a8) (fun hc11 => ?_) (fun hc11 => ?_)
 ·refine .q 5 hG ?_
  refine .e1 a8 a8 ?_
  refine congrArg AV.v ?_;simp only [Bool.or_eq_true,decide_eq_true_eq] at hc11;unfold T8;rcases hc11 with h|h
  ·rw [decide_eq_false (show ¬1≤s.l.length by omega)];rfl
  ·rw [decide_eq_false (show ¬s.l.length≤16 by omega)];simp
 ·refine .q 9 hG ?_
  refine .D9 (α:=Nat) [(0,_),(13,_)] (fun k R=>(14,.v (k:Int))::R) (fun k => []) (fun k=>k≤s.l.length∧(s.l.take k).all a3V=true) (fun k=>s.l.length - k) (0) (.c2 a8 a8 (.nil _)) ?_ (.c2 a8 a8 (.cons a8 (.nil _))) (a8) fun k hF => ?_
  ·simp
  obtain⟨h1,h2⟩:=hF
  refine .q 6 hG ⟨fun hc15 => ?_,fun hc15 => ?_⟩
  ·refine .q 12 hG ?_
   refine .p (.b5i underlying9 (.t a8) (.t a8) (by omega) (by omega) ?_)
   refine .q 4 hG ?_
   refine .go 21 a8 (.t a8) (fun hg24 => .b5i underlying9 (.q a8 hg24) (.q a8 hg24) (by first|omega|(simp;omega)|(have:=hg24;simp at this;omega)) (by first|omega|(simp;omega)|(have:=hg24;simp at this;omega)) a8) ?_
   refine .q 3 hG ?_
   refine .cond (.t a8) (fun hc26 => ?_) (fun hc26 => ?_)
   ·refine .q 5 hG ?_
    refine .e1 a8 a8 ?_
    refine congrArg AV.v (Eq.symm ?_);unfold T8;rw [b0M a3V s.l k (by omega),Bool.and_false];unfold a3V;simp only [Bool.or_eq_true,decide_eq_true_eq,Int.toNat_natCast] at hc26;rcases hc26 with h|h
    ·rw [decide_eq_false (UInt8.not_le.2 h)];rfl
    ·rw [decide_eq_false (UInt8.not_le.2 h),Bool.and_false]
   ·refine .q 2 hG ?_
    refine .ad (by omega) (by omega) ?_
    refine .q 2 hG ?_
    refine⟨k+1,.c2 rfl rfl (.cons rfl (.nil _)),rfl,?_,by omega⟩
    refine⟨by omega,?_⟩;rw [all_succ _ _ _ (by omega),h2];simp only [Bool.or_eq_false_iff,decide_eq_false_iff_not,Int.toNat_natCast] at hc26;unfold a3V;simp only [Bool.true_and,Bool.and_eq_true,decide_eq_true_eq];exact⟨UInt8.not_lt.1 hc26.1,UInt8.not_lt.1 hc26.2⟩
  ·refine .q 6 hG ?_
   refine .e1 a8 a8 ?_
   refine congrArg AV.v (Eq.symm ?_);simp only [Bool.or_eq_false_iff,decide_eq_false_iff_not] at hc11;unfold T8;rw [List.take_of_length_le (by omega)] at h2;rw [h2];simp;omega
def G5 (k:Int):Int:=if k=1 then 64 else if k=2 then 32 else 7
def B0 (p:Pred):Bool :=
 if p.Kind=1∨p.Kind=2∨p.Kind=3 then a1j p.Mask (G5 p.Kind)&&decide (p=⟨p.Kind,p.Mask,0,0,⟨[]⟩,0⟩)
 else if p.Kind=4 then decide (0≤p.R8)&&decide (p.R8≤p.To)&&decide (p.To≤67108864)&&decide (p=⟨p.Kind,0,p.R8,p.To,⟨[]⟩,0⟩)
 else if p.Kind=5 then decide (0≤p.R8)&&decide (p.R8 < 1440)&&decide (0≤p.To)&&decide (p.To < 1440)&&decide (p=⟨p.Kind,0,p.R8,p.To,⟨[]⟩,0⟩)
 else if p.Kind=6 then T8 p.Name&&decide (p=⟨p.Kind,0,0,0,p.Name,0⟩)
 else if p.Kind=7 then decide (0≤p.Number)&&decide (p.Number≤1000000)&&decide (p=⟨p.Kind,0,0,0,⟨[]⟩,p.Number⟩)
 else false
theorem a1E:∀ (i:Nat) (h:i < a6n.l.length),0≤a6n.l[i]∧a6n.l[i]≤64:=by decide
theorem S5 (k:Int) (h:k=1∨k=2∨k=3) (h2:k.toNat < a6n.l.length):a6n.l[k.toNat]=G5 k:=by
 rcases h with rfl|rfl|rfl<;>rfl
theorem a4J (p:Pred):u1 gl prog 63 [.v p] (fun r=>r = .v (B0 p)):=by
 refine u1.jn func63 (by kernel_rfl) 118 rfl fun C hC hG => ?_
 refine .q 3 hG fun b1 => ?_
 refine .q 3 hG ?_
 refine .A0 hC .z (.M1 1 a8 .z ?_)
 refine .q 3 hG ?_
 refine .p (.bS1 j3.l0 a8 T1 a7K (fun c0=>(⟨c0,0,0,0,⟨[]⟩,0⟩:j3)) (fun _=>a8) a8 a8 (.t a8) ?_)
 refine .q 1 hG fun b3 => ?_
 refine .q 16 hG ⟨fun hc9 => ?_,fun hc9 => ?_⟩
 ·refine .q 2 hG ⟨fun hc9 => ?_,fun hc9 => ?_⟩
  ·refine .q 8 hG ?_
   refine .draw (by kernel_rfl) 13 [[],[(16,0)],[],[(18,2)],[(19,3)],[(20,4)],[(17,1),(21,5)],[(22,6)],[],[],[(24,8),(25,9)],[(23,7),(26,10)],[(27,11)]] a8 (by kernel_rfl) a8 ?_
   refine⟨_,j6.A7 j3.l1 (fun x=>x.Mask) a0P a8 (fun _=>a8) (.t a8) a8,?_⟩
   refine⟨_,j6.G2 a5J (.t a8) a8,?_⟩
   refine⟨_,j6.A7 j3.l0 (fun x=>x.Kind) b0n a8 (fun _=>a8) (.t a8) a8,?_⟩
   refine⟨_,j6.G2 R6 (.t a8) a8,?_⟩
   refine⟨_,j6.c1K b7E (.c1I hG a1g) (.t a8) (by omega) (by omega) a8,?_⟩
   refine⟨_,j6.G2 R6 (.t a8) a8,?_⟩
   refine⟨_,j6.o7 hG (b4j _ _ (a1E _ _).1 (a1E _ _).2) (.cons (.t a8) (.cons (.t a8) .nil)) a8,?_⟩
   refine⟨_,j6.move (.t a8) a8,?_⟩
   refine⟨_,⟨_,_,a8,a8,fun hg24=>j6.G2 T1 (.t a8) a8⟩,?_⟩
   refine⟨_,⟨_,_,a8,a8,fun hg25=>j6.Q1 T1 (.t a8) .z a8⟩,?_⟩
   refine⟨_,⟨_,_,a8,a8,fun hg26=>j6.a2c X9 (by decide) a8 (by kernel_rfl) (.q a8 hg26) (.q a8 hg26) a8⟩,?_⟩
   refine⟨_,j6.S3 (.t a8) (fun hp=>(.q a8 hp)) a8,?_⟩
   refine⟨_,j6.assign (.t a8) a8,?_⟩
   show D5 _ _ _ _ _ [] ((2,_)::(27,_)::(26,_)::(25,_)::(24,_)::(23,_)::(22,_)::(21,_)::(20,_)::(19,_)::(18,_)::(17,_)::(16,_)::_) _
   refine .q 2 hG ?_
   refine .e1 a8 a8 ?_
   first|(exfalso;omega)|(refine congrArg AV.v ?_;(try rw [S5 p.Kind (by omega)]);unfold B0;(repeat (first|rw [if_pos (by omega)]|rw [if_neg (by omega)]));(try rfl))
  ·refine .q 6 hG ⟨fun hc28 => ?_,fun hc28 => ?_⟩
   ·refine .q 1 hG ?_
    refine .D7 [j0,j1] (by kernel_rfl) 8 [[],[(30,0)],[],[(32,2)],[],[(34,4),(31,1)],[],[(35,6),(33,3)]] [5,7] a8 (by kernel_rfl) a8 (by kernel_rfl) (by decide) ?_
    refine⟨_,fun H=>j6.A7 j3.l2 (fun x=>x.R8) M5 a8 (fun _=>a8) (.t a8) a8,?_⟩
    refine⟨_,fun H=>j6.G2 R6 (.t a8) a8,?_⟩
    refine⟨_,fun H=>j6.A7 j3.l3 (fun x=>x.To) M6 a8 (fun _=>a8) (.t a8) a8,?_⟩
    refine⟨_,fun H=>j6.G2 R6 (.t a8) a8,?_⟩
    refine⟨_,fun H=>j6.B1 j3.l2 M5 a8 (.t a8) a8,?_⟩
    refine .inl ?_
    refine⟨_,fun H=>j6.B1 j3.l3 M6 a8 (.t a8) a8,?_⟩
    refine .inl ?_
    refine⟨⟨([],j2 [_,c8]),a8⟩,?_⟩
    refine A6.stF (fun y x => { x with R8:=y }) R6 (.t rfl) (.t rfl) .z (fun _ _=>rfl) ?_
    refine⟨⟨([],j2 [_,c8]),a8⟩,?_⟩
    refine A6.stF (fun y x => { x with To:=y }) R6 (.t rfl) (.t rfl) .z (fun _ _=>rfl) ?_
    refine⟨⟨([],j2 [_,c8]),a8⟩,?_⟩
    show D5 _ _ _ _ _ [] ((35,_)::(34,_)::(33,_)::(32,_)::(31,_)::(30,_)::_) _
    refine .q 21 hG ?_
    refine .go 51 a8 (.t a8) (fun hg54 => .a2c X9 (by decide) a8 (by kernel_rfl) (.q a8 hg54) (.q a8 hg54) a8) ?_
    refine .q 4 hG ?_
    refine .e1 a8 a8 ?_
    first|(exfalso;omega)|(refine congrArg AV.v ?_;(try rw [S5 p.Kind (by omega)]);unfold B0;(repeat (first|rw [if_pos (by omega)]|rw [if_neg (by omega)]));(try rfl))
   ·refine .q 6 hG ⟨fun hc56 => ?_,fun hc56 => ?_⟩
    ·refine .q 1 hG ?_
     refine .D7 [j0,j1] (by kernel_rfl) 8 [[],[(58,0)],[],[(60,2)],[],[(62,4),(59,1)],[],[(63,6),(61,3)]] [5,7] a8 (by kernel_rfl) a8 (by kernel_rfl) (by decide) ?_
     refine⟨_,fun H=>j6.A7 j3.l2 (fun x=>x.R8) M5 a8 (fun _=>a8) (.t a8) a8,?_⟩
     refine⟨_,fun H=>j6.G2 R6 (.t a8) a8,?_⟩
     refine⟨_,fun H=>j6.A7 j3.l3 (fun x=>x.To) M6 a8 (fun _=>a8) (.t a8) a8,?_⟩
     refine⟨_,fun H=>j6.G2 R6 (.t a8) a8,?_⟩
     refine⟨_,fun H=>j6.B1 j3.l2 M5 a8 (.t a8) a8,?_⟩
     refine .inl ?_
     refine⟨_,fun H=>j6.B1 j3.l3 M6 a8 (.t a8) a8,?_⟩
     refine .inl ?_
     refine⟨⟨([],j2 [_,c8]),a8⟩,?_⟩
     refine A6.stF (fun y x => { x with R8:=y }) R6 (.t rfl) (.t rfl) .z (fun _ _=>rfl) ?_
     refine⟨⟨([],j2 [_,c8]),a8⟩,?_⟩
     refine A6.stF (fun y x => { x with To:=y }) R6 (.t rfl) (.t rfl) .z (fun _ _=>rfl) ?_
     refine⟨⟨([],j2 [_,c8]),a8⟩,?_⟩
     show D5 _ _ _ _ _ [] ((63,_)::(62,_)::(61,_)::(60,_)::(59,_)::(58,_)::_) _
     refine .q 24 hG ?_
     refine .go 82 a8 (.t a8) (fun hg85 => .a2c X9 (by decide) a8 (by kernel_rfl) (.q a8 hg85) (.q a8 hg85) a8) ?_
     refine .q 4 hG ?_
     refine .e1 a8 a8 ?_
     first|(exfalso;omega)|(refine congrArg AV.v ?_;(try rw [S5 p.Kind (by omega)]);unfold B0;(repeat (first|rw [if_pos (by omega)]|rw [if_neg (by omega)]));(try rfl))
    ·refine .q 6 hG ⟨fun hc87 => ?_,fun hc87 => ?_⟩
     ·refine .q 11 hG ?_
      refine .k hG (a5Q _) ?_
      refine .q 3 hG ?_
      refine .go 95 a8 (.t a8) (fun hg98 => .a2c X9 (by decide) a8 (by kernel_rfl) (.q a8 hg98) (.q a8 hg98) a8) ?_
      refine .q 4 hG ?_
      refine .e1 a8 a8 ?_
      first|(exfalso;omega)|(refine congrArg AV.v ?_;(try rw [S5 p.Kind (by omega)]);unfold B0;(repeat (first|rw [if_pos (by omega)]|rw [if_neg (by omega)]));(try rfl))
     ·refine .q 6 hG ⟨fun hc100 => ?_,fun hc100 => ?_⟩
      ·refine .q 20 hG ?_
       refine .go 113 a8 (.t a8) (fun hg116 => .a2c X9 (by decide) a8 (by kernel_rfl) (.q a8 hg116) (.q a8 hg116) a8) ?_
       refine .q 4 hG ?_
       refine .e1 a8 a8 ?_
       first|(exfalso;omega)|(refine congrArg AV.v ?_;(try rw [S5 p.Kind (by omega)]);unfold B0;(repeat (first|rw [if_pos (by omega)]|rw [if_neg (by omega)]));(try rfl))
      ·refine .q 6 hG ?_
       refine .e1 a8 a8 ?_
       first|(exfalso;omega)|(refine congrArg AV.v ?_;(try rw [S5 p.Kind (by omega)]);unfold B0;(repeat (first|rw [if_pos (by omega)]|rw [if_neg (by omega)]));(try rfl))
 ·refine .q 6 hG ⟨fun hc9 => ?_,fun hc9 => ?_⟩
  ·refine .q 2 hG ⟨fun hc9 => ?_,fun hc9 => ?_⟩
   ·refine .q 8 hG ?_
    refine .draw (by kernel_rfl) 13 [[],[(16,0)],[],[(18,2)],[(19,3)],[(20,4)],[(17,1),(21,5)],[(22,6)],[],[],[(24,8),(25,9)],[(23,7),(26,10)],[(27,11)]] a8 (by kernel_rfl) a8 ?_
    refine⟨_,j6.A7 j3.l1 (fun x=>x.Mask) a0P a8 (fun _=>a8) (.t a8) a8,?_⟩
    refine⟨_,j6.G2 a5J (.t a8) a8,?_⟩
    refine⟨_,j6.A7 j3.l0 (fun x=>x.Kind) b0n a8 (fun _=>a8) (.t a8) a8,?_⟩
    refine⟨_,j6.G2 R6 (.t a8) a8,?_⟩
    refine⟨_,j6.c1K b7E (.c1I hG a1g) (.t a8) (by omega) (by omega) a8,?_⟩
    refine⟨_,j6.G2 R6 (.t a8) a8,?_⟩
    refine⟨_,j6.o7 hG (b4j _ _ (a1E _ _).1 (a1E _ _).2) (.cons (.t a8) (.cons (.t a8) .nil)) a8,?_⟩
    refine⟨_,j6.move (.t a8) a8,?_⟩
    refine⟨_,⟨_,_,a8,a8,fun hg24=>j6.G2 T1 (.t a8) a8⟩,?_⟩
    refine⟨_,⟨_,_,a8,a8,fun hg25=>j6.Q1 T1 (.t a8) .z a8⟩,?_⟩
    refine⟨_,⟨_,_,a8,a8,fun hg26=>j6.a2c X9 (by decide) a8 (by kernel_rfl) (.q a8 hg26) (.q a8 hg26) a8⟩,?_⟩
    refine⟨_,j6.S3 (.t a8) (fun hp=>(.q a8 hp)) a8,?_⟩
    refine⟨_,j6.assign (.t a8) a8,?_⟩
    show D5 _ _ _ _ _ [] ((2,_)::(27,_)::(26,_)::(25,_)::(24,_)::(23,_)::(22,_)::(21,_)::(20,_)::(19,_)::(18,_)::(17,_)::(16,_)::_) _
    refine .q 2 hG ?_
    refine .e1 a8 a8 ?_
    first|(exfalso;omega)|(refine congrArg AV.v ?_;(try rw [S5 p.Kind (by omega)]);unfold B0;(repeat (first|rw [if_pos (by omega)]|rw [if_neg (by omega)]));(try rfl))
   ·refine .q 6 hG ⟨fun hc28 => ?_,fun hc28 => ?_⟩
    ·refine .q 1 hG ?_
     refine .D7 [j0,j1] (by kernel_rfl) 8 [[],[(30,0)],[],[(32,2)],[],[(34,4),(31,1)],[],[(35,6),(33,3)]] [5,7] a8 (by kernel_rfl) a8 (by kernel_rfl) (by decide) ?_
     refine⟨_,fun H=>j6.A7 j3.l2 (fun x=>x.R8) M5 a8 (fun _=>a8) (.t a8) a8,?_⟩
     refine⟨_,fun H=>j6.G2 R6 (.t a8) a8,?_⟩
     refine⟨_,fun H=>j6.A7 j3.l3 (fun x=>x.To) M6 a8 (fun _=>a8) (.t a8) a8,?_⟩
     refine⟨_,fun H=>j6.G2 R6 (.t a8) a8,?_⟩
     refine⟨_,fun H=>j6.B1 j3.l2 M5 a8 (.t a8) a8,?_⟩
     refine .inl ?_
     refine⟨_,fun H=>j6.B1 j3.l3 M6 a8 (.t a8) a8,?_⟩
     refine .inl ?_
     refine⟨⟨([],j2 [_,c8]),a8⟩,?_⟩
     refine A6.stF (fun y x => { x with R8:=y }) R6 (.t rfl) (.t rfl) .z (fun _ _=>rfl) ?_
     refine⟨⟨([],j2 [_,c8]),a8⟩,?_⟩
     refine A6.stF (fun y x => { x with To:=y }) R6 (.t rfl) (.t rfl) .z (fun _ _=>rfl) ?_
     refine⟨⟨([],j2 [_,c8]),a8⟩,?_⟩
     show D5 _ _ _ _ _ [] ((35,_)::(34,_)::(33,_)::(32,_)::(31,_)::(30,_)::_) _
     refine .q 21 hG ?_
     refine .go 51 a8 (.t a8) (fun hg54 => .a2c X9 (by decide) a8 (by kernel_rfl) (.q a8 hg54) (.q a8 hg54) a8) ?_
     refine .q 4 hG ?_
     refine .e1 a8 a8 ?_
     first|(exfalso;omega)|(refine congrArg AV.v ?_;(try rw [S5 p.Kind (by omega)]);unfold B0;(repeat (first|rw [if_pos (by omega)]|rw [if_neg (by omega)]));(try rfl))
    ·refine .q 6 hG ⟨fun hc56 => ?_,fun hc56 => ?_⟩
     ·refine .q 1 hG ?_
      refine .D7 [j0,j1] (by kernel_rfl) 8 [[],[(58,0)],[],[(60,2)],[],[(62,4),(59,1)],[],[(63,6),(61,3)]] [5,7] a8 (by kernel_rfl) a8 (by kernel_rfl) (by decide) ?_
      refine⟨_,fun H=>j6.A7 j3.l2 (fun x=>x.R8) M5 a8 (fun _=>a8) (.t a8) a8,?_⟩
      refine⟨_,fun H=>j6.G2 R6 (.t a8) a8,?_⟩
      refine⟨_,fun H=>j6.A7 j3.l3 (fun x=>x.To) M6 a8 (fun _=>a8) (.t a8) a8,?_⟩
      refine⟨_,fun H=>j6.G2 R6 (.t a8) a8,?_⟩
      refine⟨_,fun H=>j6.B1 j3.l2 M5 a8 (.t a8) a8,?_⟩
      refine .inl ?_
      refine⟨_,fun H=>j6.B1 j3.l3 M6 a8 (.t a8) a8,?_⟩
      refine .inl ?_
      refine⟨⟨([],j2 [_,c8]),a8⟩,?_⟩
      refine A6.stF (fun y x => { x with R8:=y }) R6 (.t rfl) (.t rfl) .z (fun _ _=>rfl) ?_
      refine⟨⟨([],j2 [_,c8]),a8⟩,?_⟩
      refine A6.stF (fun y x => { x with To:=y }) R6 (.t rfl) (.t rfl) .z (fun _ _=>rfl) ?_
      refine⟨⟨([],j2 [_,c8]),a8⟩,?_⟩
      show D5 _ _ _ _ _ [] ((63,_)::(62,_)::(61,_)::(60,_)::(59,_)::(58,_)::_) _
      refine .q 24 hG ?_
      refine .go 82 a8 (.t a8) (fun hg85 => .a2c X9 (by decide) a8 (by kernel_rfl) (.q a8 hg85) (.q a8 hg85) a8) ?_
      refine .q 4 hG ?_
      refine .e1 a8 a8 ?_
      first|(exfalso;omega)|(refine congrArg AV.v ?_;(try rw [S5 p.Kind (by omega)]);unfold B0;(repeat (first|rw [if_pos (by omega)]|rw [if_neg (by omega)]));(try rfl))
     ·refine .q 6 hG ⟨fun hc87 => ?_,fun hc87 => ?_⟩
      ·refine .q 11 hG ?_
       refine .k hG (a5Q _) ?_
       refine .q 3 hG ?_
       refine .go 95 a8 (.t a8) (fun hg98 => .a2c X9 (by decide) a8 (by kernel_rfl) (.q a8 hg98) (.q a8 hg98) a8) ?_
       refine .q 4 hG ?_
       refine .e1 a8 a8 ?_
       first|(exfalso;omega)|(refine congrArg AV.v ?_;(try rw [S5 p.Kind (by omega)]);unfold B0;(repeat (first|rw [if_pos (by omega)]|rw [if_neg (by omega)]));(try rfl))
      ·refine .q 6 hG ⟨fun hc100 => ?_,fun hc100 => ?_⟩
       ·refine .q 20 hG ?_
        refine .go 113 a8 (.t a8) (fun hg116 => .a2c X9 (by decide) a8 (by kernel_rfl) (.q a8 hg116) (.q a8 hg116) a8) ?_
        refine .q 4 hG ?_
        refine .e1 a8 a8 ?_
        first|(exfalso;omega)|(refine congrArg AV.v ?_;(try rw [S5 p.Kind (by omega)]);unfold B0;(repeat (first|rw [if_pos (by omega)]|rw [if_neg (by omega)]));(try rfl))
       ·refine .q 6 hG ?_
        refine .e1 a8 a8 ?_
        first|(exfalso;omega)|(refine congrArg AV.v ?_;(try rw [S5 p.Kind (by omega)]);unfold B0;(repeat (first|rw [if_pos (by omega)]|rw [if_neg (by omega)]));(try rfl))
  ·refine .q 5 hG ⟨fun hc9 => ?_,fun hc9 => ?_⟩
   ·refine .q 8 hG ?_
    refine .draw (by kernel_rfl) 13 [[],[(16,0)],[],[(18,2)],[(19,3)],[(20,4)],[(17,1),(21,5)],[(22,6)],[],[],[(24,8),(25,9)],[(23,7),(26,10)],[(27,11)]] a8 (by kernel_rfl) a8 ?_
    refine⟨_,j6.A7 j3.l1 (fun x=>x.Mask) a0P a8 (fun _=>a8) (.t a8) a8,?_⟩
    refine⟨_,j6.G2 a5J (.t a8) a8,?_⟩
    refine⟨_,j6.A7 j3.l0 (fun x=>x.Kind) b0n a8 (fun _=>a8) (.t a8) a8,?_⟩
    refine⟨_,j6.G2 R6 (.t a8) a8,?_⟩
    refine⟨_,j6.c1K b7E (.c1I hG a1g) (.t a8) (by omega) (by omega) a8,?_⟩
    refine⟨_,j6.G2 R6 (.t a8) a8,?_⟩
    refine⟨_,j6.o7 hG (b4j _ _ (a1E _ _).1 (a1E _ _).2) (.cons (.t a8) (.cons (.t a8) .nil)) a8,?_⟩
    refine⟨_,j6.move (.t a8) a8,?_⟩
    refine⟨_,⟨_,_,a8,a8,fun hg24=>j6.G2 T1 (.t a8) a8⟩,?_⟩
    refine⟨_,⟨_,_,a8,a8,fun hg25=>j6.Q1 T1 (.t a8) .z a8⟩,?_⟩
    refine⟨_,⟨_,_,a8,a8,fun hg26=>j6.a2c X9 (by decide) a8 (by kernel_rfl) (.q a8 hg26) (.q a8 hg26) a8⟩,?_⟩
    refine⟨_,j6.S3 (.t a8) (fun hp=>(.q a8 hp)) a8,?_⟩
    refine⟨_,j6.assign (.t a8) a8,?_⟩
    show D5 _ _ _ _ _ [] ((2,_)::(27,_)::(26,_)::(25,_)::(24,_)::(23,_)::(22,_)::(21,_)::(20,_)::(19,_)::(18,_)::(17,_)::(16,_)::_) _
    refine .q 2 hG ?_
    refine .e1 a8 a8 ?_
    first|(exfalso;omega)|(refine congrArg AV.v ?_;(try rw [S5 p.Kind (by omega)]);unfold B0;(repeat (first|rw [if_pos (by omega)]|rw [if_neg (by omega)]));(try rfl))
   ·refine .q 6 hG ⟨fun hc28 => ?_,fun hc28 => ?_⟩
    ·refine .q 1 hG ?_
     refine .D7 [j0,j1] (by kernel_rfl) 8 [[],[(30,0)],[],[(32,2)],[],[(34,4),(31,1)],[],[(35,6),(33,3)]] [5,7] a8 (by kernel_rfl) a8 (by kernel_rfl) (by decide) ?_
     refine⟨_,fun H=>j6.A7 j3.l2 (fun x=>x.R8) M5 a8 (fun _=>a8) (.t a8) a8,?_⟩
     refine⟨_,fun H=>j6.G2 R6 (.t a8) a8,?_⟩
     refine⟨_,fun H=>j6.A7 j3.l3 (fun x=>x.To) M6 a8 (fun _=>a8) (.t a8) a8,?_⟩
     refine⟨_,fun H=>j6.G2 R6 (.t a8) a8,?_⟩
     refine⟨_,fun H=>j6.B1 j3.l2 M5 a8 (.t a8) a8,?_⟩
     refine .inl ?_
     refine⟨_,fun H=>j6.B1 j3.l3 M6 a8 (.t a8) a8,?_⟩
     refine .inl ?_
     refine⟨⟨([],j2 [_,c8]),a8⟩,?_⟩
     refine A6.stF (fun y x => { x with R8:=y }) R6 (.t rfl) (.t rfl) .z (fun _ _=>rfl) ?_
     refine⟨⟨([],j2 [_,c8]),a8⟩,?_⟩
     refine A6.stF (fun y x => { x with To:=y }) R6 (.t rfl) (.t rfl) .z (fun _ _=>rfl) ?_
     refine⟨⟨([],j2 [_,c8]),a8⟩,?_⟩
     show D5 _ _ _ _ _ [] ((35,_)::(34,_)::(33,_)::(32,_)::(31,_)::(30,_)::_) _
     refine .q 21 hG ?_
     refine .go 51 a8 (.t a8) (fun hg54 => .a2c X9 (by decide) a8 (by kernel_rfl) (.q a8 hg54) (.q a8 hg54) a8) ?_
     refine .q 4 hG ?_
     refine .e1 a8 a8 ?_
     first|(exfalso;omega)|(refine congrArg AV.v ?_;(try rw [S5 p.Kind (by omega)]);unfold B0;(repeat (first|rw [if_pos (by omega)]|rw [if_neg (by omega)]));(try rfl))
    ·refine .q 6 hG ⟨fun hc56 => ?_,fun hc56 => ?_⟩
     ·refine .q 1 hG ?_
      refine .D7 [j0,j1] (by kernel_rfl) 8 [[],[(58,0)],[],[(60,2)],[],[(62,4),(59,1)],[],[(63,6),(61,3)]] [5,7] a8 (by kernel_rfl) a8 (by kernel_rfl) (by decide) ?_
      refine⟨_,fun H=>j6.A7 j3.l2 (fun x=>x.R8) M5 a8 (fun _=>a8) (.t a8) a8,?_⟩
      refine⟨_,fun H=>j6.G2 R6 (.t a8) a8,?_⟩
      refine⟨_,fun H=>j6.A7 j3.l3 (fun x=>x.To) M6 a8 (fun _=>a8) (.t a8) a8,?_⟩
      refine⟨_,fun H=>j6.G2 R6 (.t a8) a8,?_⟩
      refine⟨_,fun H=>j6.B1 j3.l2 M5 a8 (.t a8) a8,?_⟩
      refine .inl ?_
      refine⟨_,fun H=>j6.B1 j3.l3 M6 a8 (.t a8) a8,?_⟩
      refine .inl ?_
      refine⟨⟨([],j2 [_,c8]),a8⟩,?_⟩
      refine A6.stF (fun y x => { x with R8:=y }) R6 (.t rfl) (.t rfl) .z (fun _ _=>rfl) ?_
      refine⟨⟨([],j2 [_,c8]),a8⟩,?_⟩
      refine A6.stF (fun y x => { x with To:=y }) R6 (.t rfl) (.t rfl) .z (fun _ _=>rfl) ?_
      refine⟨⟨([],j2 [_,c8]),a8⟩,?_⟩
      show D5 _ _ _ _ _ [] ((63,_)::(62,_)::(61,_)::(60,_)::(59,_)::(58,_)::_) _
      refine .q 24 hG ?_
      refine .go 82 a8 (.t a8) (fun hg85 => .a2c X9 (by decide) a8 (by kernel_rfl) (.q a8 hg85) (.q a8 hg85) a8) ?_
      refine .q 4 hG ?_
      refine .e1 a8 a8 ?_
      first|(exfalso;omega)|(refine congrArg AV.v ?_;(try rw [S5 p.Kind (by omega)]);unfold B0;(repeat (first|rw [if_pos (by omega)]|rw [if_neg (by omega)]));(try rfl))
     ·refine .q 6 hG ⟨fun hc87 => ?_,fun hc87 => ?_⟩
      ·refine .q 11 hG ?_
       refine .k hG (a5Q _) ?_
       refine .q 3 hG ?_
       refine .go 95 a8 (.t a8) (fun hg98 => .a2c X9 (by decide) a8 (by kernel_rfl) (.q a8 hg98) (.q a8 hg98) a8) ?_
       refine .q 4 hG ?_
       refine .e1 a8 a8 ?_
       first|(exfalso;omega)|(refine congrArg AV.v ?_;(try rw [S5 p.Kind (by omega)]);unfold B0;(repeat (first|rw [if_pos (by omega)]|rw [if_neg (by omega)]));(try rfl))
      ·refine .q 6 hG ⟨fun hc100 => ?_,fun hc100 => ?_⟩
       ·refine .q 20 hG ?_
        refine .go 113 a8 (.t a8) (fun hg116 => .a2c X9 (by decide) a8 (by kernel_rfl) (.q a8 hg116) (.q a8 hg116) a8) ?_
        refine .q 4 hG ?_
        refine .e1 a8 a8 ?_
        first|(exfalso;omega)|(refine congrArg AV.v ?_;(try rw [S5 p.Kind (by omega)]);unfold B0;(repeat (first|rw [if_pos (by omega)]|rw [if_neg (by omega)]));(try rfl))
       ·refine .q 6 hG ?_
        refine .e1 a8 a8 ?_
        first|(exfalso;omega)|(refine congrArg AV.v ?_;(try rw [S5 p.Kind (by omega)]);unfold B0;(repeat (first|rw [if_pos (by omega)]|rw [if_neg (by omega)]));(try rfl))
theorem c17 (m:UInt64):(m < 4294967296)↔m >>> 32=0:=by
 rw [UInt64.lt_iff_toNat_lt,←UInt64.toNat_inj,UInt64.toNat_shiftRight]
 show m.toNat < 4294967296↔m.toNat >>> 32=0
 rw [Nat.shiftRight_eq_div_pow];constructor<;>(intro h;omega)
theorem c3m (m:UInt64):(m < 128)↔m >>> 7=0:=by
 rw [UInt64.lt_iff_toNat_lt,←UInt64.toNat_inj,UInt64.toNat_shiftRight]
 show m.toNat < 128↔m.toNat >>> 7=0
 rw [Nat.shiftRight_eq_div_pow];constructor<;>(intro h;omega)
theorem a13 (m:UInt64):a1j m (G5 1)=decide (m≠0):=by unfold a1j G5;simp
theorem a14 (m:UInt64):a1j m (G5 2)=(decide (m≠0)&&decide (m < 4294967296)):=by
 have e:decide (m < 4294967296)=decide (m >>> 32=0):=decide_eq_decide.2 (c17 m)
 rw [e];rfl
theorem a15 (m:UInt64):a1j m (G5 3)=(decide (m≠0)&&decide (m < 128)):=by
 have e:decide (m < 128)=decide (m >>> 7=0):=decide_eq_decide.2 (c3m m)
 rw [e];rfl
theorem a1k (p:Pred):u1 gl prog 107 [.v p] (fun r=>r = .v (B0 p)):=by
 refine u1.jn func107 (by kernel_rfl) 120 rfl fun C hC hG => ?_
 refine .q 3 hG fun b1 => ?_
 refine .q 3 hG ?_
 refine .A0 hC .z (.M1 1 a8 .z ?_)
 refine .q 3 hG ?_
 refine .p (.bS1 j3.l0 a8 T1 a7K (fun c0=>(⟨c0,0,0,0,⟨[]⟩,0⟩:j3)) (fun _=>a8) a8 a8 (.t a8) ?_)
 refine .q 1 hG fun b3 => ?_
 refine .q 19 hG ⟨fun hc10 => ?_,fun hc10 => ?_⟩
 ·refine .D7 [j0,j1] (by kernel_rfl) 8 [[],[(12,0)],[],[(14,2)],[(15,3)],[],[(17,5),(13,1)],[(16,4)]] [6] a8 (by kernel_rfl) a8 (by kernel_rfl) (by decide) ?_
  refine⟨_,fun H=>j6.A7 j3.l1 (fun x=>x.Mask) a0P a8 (fun _=>a8) (.t a8) a8,?_⟩
  refine⟨_,fun H=>j6.G2 a5J (.t a8) a8,?_⟩
  refine⟨_,fun H=>j6.A7 j3.l1 (fun x=>x.Mask) a0P a8 (fun _=>a8) (.t a8) a8,?_⟩
  refine⟨_,fun H=>j6.G2 a5J (.t a8) a8,?_⟩
  refine⟨_,fun H=>j6.b5h (.t a8) (.u64 0 a8) a8,?_⟩
  refine⟨_,fun H=>j6.B1 j3.l1 a0P a8 (.t a8) a8,?_⟩
  refine .inl ?_
  refine⟨_,fun H=>j6.assign (.t a8) a8,?_⟩
  refine⟨⟨([],j2 [_,c8]),a8⟩,?_⟩
  refine A6.stF (fun y x => { x with Mask:=y }) a5J (.t rfl) (.t rfl) .z (fun _ _=>rfl) ?_
  refine⟨⟨([],j2 [_,c8]),a8⟩,?_⟩
  show D5 _ _ _ _ _ [] ((4,_)::(17,_)::(16,_)::(15,_)::(14,_)::(13,_)::(12,_)::_) _
  refine .q 7 hG ?_
  refine .go 115 a8 (.t a8) (fun hg118 => .a2c X9 (by decide) a8 (by kernel_rfl) (.q a8 hg118) (.q a8 hg118) a8) ?_
  refine .q 4 hG ?_
  refine .e1 a8 a8 ?_
  refine congrArg AV.v ?_
  unfold B0
  (repeat (first|rw [if_pos (by omega)]|rw [if_neg (by omega)]))
  (try first|rfl|(rw [show G5 p.Kind=G5 1 by rw [hc10],a13])|(rw [show G5 p.Kind=G5 2 by rw [hc18],a14])|(rw [show G5 p.Kind=G5 3 by rw [hc31],a15]))
 ·refine .q 6 hG ⟨fun hc18 => ?_,fun hc18 => ?_⟩
  ·refine .D7 [j0,j1] (by kernel_rfl) 13 [[],[(20,0)],[],[(22,2)],[(23,3)],[(24,4)],[],[(26,6)],[(27,7)],[(25,5),(28,8)],[],[(30,10),(21,1)],[(29,9)]] [11] a8 (by kernel_rfl) a8 (by kernel_rfl) (by decide) ?_
   refine⟨_,fun H=>j6.A7 j3.l1 (fun x=>x.Mask) a0P a8 (fun _=>a8) (.t a8) a8,?_⟩
   refine⟨_,fun H=>j6.G2 a5J (.t a8) a8,?_⟩
   refine⟨_,fun H=>j6.A7 j3.l1 (fun x=>x.Mask) a0P a8 (fun _=>a8) (.t a8) a8,?_⟩
   refine⟨_,fun H=>j6.G2 a5J (.t a8) a8,?_⟩
   refine⟨_,fun H=>j6.b5h (.t a8) (.u64 0 a8) a8,?_⟩
   refine⟨_,fun H=>j6.move (.t a8) a8,?_⟩
   refine⟨_,fun H=>⟨_,_,a8,a8,fun hg26=>j6.A7 j3.l1 (fun x=>x.Mask) a0P a8 (fun _=>a8) (.t a8) a8⟩,?_⟩
   refine⟨_,fun H=>⟨_,_,a8,a8,fun hg27=>j6.G2 a5J (.q a8 hg27) a8⟩,?_⟩
   refine⟨_,fun H=>⟨_,_,a8,a8,fun hg28=>j6.c1m (.q a8 hg28) (.u64 4294967296 a8) a8⟩,?_⟩
   refine⟨_,fun H=>j6.S3 (.t a8) (fun hp=>(.q a8 hp)) a8,?_⟩
   refine⟨_,fun H=>j6.B1 j3.l1 a0P a8 (.t a8) a8,?_⟩
   refine .inl ?_
   refine⟨_,fun H=>j6.assign (.t a8) a8,?_⟩
   refine⟨⟨([],j2 [_,c8]),a8⟩,?_⟩
   refine A6.stF (fun y x => { x with Mask:=y }) a5J (.t rfl) (.t rfl) .z (fun _ _=>rfl) ?_
   refine⟨⟨([],j2 [_,c8]),a8⟩,?_⟩
   show D5 _ _ _ _ _ [] ((4,_)::(30,_)::(29,_)::(28,_)::(27,_)::(26,_)::(25,_)::(24,_)::(23,_)::(22,_)::(21,_)::(20,_)::_) _
   refine .q 7 hG ?_
   refine .go 115 a8 (.t a8) (fun hg118 => .a2c X9 (by decide) a8 (by kernel_rfl) (.q a8 hg118) (.q a8 hg118) a8) ?_
   refine .q 4 hG ?_
   refine .e1 a8 a8 ?_
   refine congrArg AV.v ?_
   unfold B0
   (repeat (first|rw [if_pos (by omega)]|rw [if_neg (by omega)]))
   (try first|rfl|(rw [show G5 p.Kind=G5 1 by rw [hc10],a13])|(rw [show G5 p.Kind=G5 2 by rw [hc18],a14])|(rw [show G5 p.Kind=G5 3 by rw [hc31],a15]))
  ·refine .q 6 hG ⟨fun hc31 => ?_,fun hc31 => ?_⟩
   ·refine .D7 [j0,j1] (by kernel_rfl) 13 [[],[(33,0)],[],[(35,2)],[(36,3)],[(37,4)],[],[(39,6)],[(40,7)],[(38,5),(41,8)],[],[(43,10),(34,1)],[(42,9)]] [11] a8 (by kernel_rfl) a8 (by kernel_rfl) (by decide) ?_
    refine⟨_,fun H=>j6.A7 j3.l1 (fun x=>x.Mask) a0P a8 (fun _=>a8) (.t a8) a8,?_⟩
    refine⟨_,fun H=>j6.G2 a5J (.t a8) a8,?_⟩
    refine⟨_,fun H=>j6.A7 j3.l1 (fun x=>x.Mask) a0P a8 (fun _=>a8) (.t a8) a8,?_⟩
    refine⟨_,fun H=>j6.G2 a5J (.t a8) a8,?_⟩
    refine⟨_,fun H=>j6.b5h (.t a8) (.u64 0 a8) a8,?_⟩
    refine⟨_,fun H=>j6.move (.t a8) a8,?_⟩
    refine⟨_,fun H=>⟨_,_,a8,a8,fun hg39=>j6.A7 j3.l1 (fun x=>x.Mask) a0P a8 (fun _=>a8) (.t a8) a8⟩,?_⟩
    refine⟨_,fun H=>⟨_,_,a8,a8,fun hg40=>j6.G2 a5J (.q a8 hg40) a8⟩,?_⟩
    refine⟨_,fun H=>⟨_,_,a8,a8,fun hg41=>j6.c1m (.q a8 hg41) (.u64 128 a8) a8⟩,?_⟩
    refine⟨_,fun H=>j6.S3 (.t a8) (fun hp=>(.q a8 hp)) a8,?_⟩
    refine⟨_,fun H=>j6.B1 j3.l1 a0P a8 (.t a8) a8,?_⟩
    refine .inl ?_
    refine⟨_,fun H=>j6.assign (.t a8) a8,?_⟩
    refine⟨⟨([],j2 [_,c8]),a8⟩,?_⟩
    refine A6.stF (fun y x => { x with Mask:=y }) a5J (.t rfl) (.t rfl) .z (fun _ _=>rfl) ?_
    refine⟨⟨([],j2 [_,c8]),a8⟩,?_⟩
    show D5 _ _ _ _ _ [] ((4,_)::(43,_)::(42,_)::(41,_)::(40,_)::(39,_)::(38,_)::(37,_)::(36,_)::(35,_)::(34,_)::(33,_)::_) _
    refine .q 7 hG ?_
    refine .go 115 a8 (.t a8) (fun hg118 => .a2c X9 (by decide) a8 (by kernel_rfl) (.q a8 hg118) (.q a8 hg118) a8) ?_
    refine .q 4 hG ?_
    refine .e1 a8 a8 ?_
    refine congrArg AV.v ?_
    unfold B0
    (repeat (first|rw [if_pos (by omega)]|rw [if_neg (by omega)]))
    (try first|rfl|(rw [show G5 p.Kind=G5 1 by rw [hc10],a13])|(rw [show G5 p.Kind=G5 2 by rw [hc18],a14])|(rw [show G5 p.Kind=G5 3 by rw [hc31],a15]))
   ·refine .q 6 hG ⟨fun hc44 => ?_,fun hc44 => ?_⟩
    ·refine .D7 [j0,j1] (by kernel_rfl) 24 [[],[(46,0)],[],[(48,2)],[],[(50,4)],[(51,5)],[(52,6)],[],[(54,8)],[],[(56,10)],[(55,9),(57,11)],[(53,7),(58,12)],[(59,13)],[],[(61,15)],[(62,16)],[(60,14),(63,17)],[],[(65,19),(47,1)],[],[(66,21),(49,3)],[(64,18)]] [20,22] a8 (by kernel_rfl) a8 (by kernel_rfl) (by decide) ?_
     refine⟨_,fun H=>j6.A7 j3.l2 (fun x=>x.R8) M5 a8 (fun _=>a8) (.t a8) a8,?_⟩
     refine⟨_,fun H=>j6.G2 R6 (.t a8) a8,?_⟩
     refine⟨_,fun H=>j6.A7 j3.l3 (fun x=>x.To) M6 a8 (fun _=>a8) (.t a8) a8,?_⟩
     refine⟨_,fun H=>j6.G2 R6 (.t a8) a8,?_⟩
     refine⟨_,fun H=>j6.A7 j3.l2 (fun x=>x.R8) M5 a8 (fun _=>a8) (.t a8) a8,?_⟩
     refine⟨_,fun H=>j6.G2 R6 (.t a8) a8,?_⟩
     refine⟨_,fun H=>j6.geq (.t a8) (.i a8) a8,?_⟩
     refine⟨_,fun H=>j6.move (.t a8) a8,?_⟩
     refine⟨_,fun H=>⟨_,_,a8,a8,fun hg54=>j6.A7 j3.l2 (fun x=>x.R8) M5 a8 (fun _=>a8) (.t a8) a8⟩,?_⟩
     refine⟨_,fun H=>⟨_,_,a8,a8,fun hg55=>j6.G2 R6 (.q a8 hg55) a8⟩,?_⟩
     refine⟨_,fun H=>⟨_,_,a8,a8,fun hg56=>j6.A7 j3.l3 (fun x=>x.To) M6 a8 (fun _=>a8) (.t a8) a8⟩,?_⟩
     refine⟨_,fun H=>⟨_,_,a8,a8,fun hg57=>j6.G2 R6 (.q a8 hg57) a8⟩,?_⟩
     refine⟨_,fun H=>⟨_,_,a8,a8,fun hg58=>j6.leq (.q a8 hg58) (.q a8 hg58) a8⟩,?_⟩
     refine⟨_,fun H=>j6.S3 (.t a8) (fun hp=>(.q a8 hp)) a8,?_⟩
     refine⟨_,fun H=>j6.move (.t a8) a8,?_⟩
     refine⟨_,fun H=>⟨_,_,a8,a8,fun hg61=>j6.A7 j3.l3 (fun x=>x.To) M6 a8 (fun _=>a8) (.t a8) a8⟩,?_⟩
     refine⟨_,fun H=>⟨_,_,a8,a8,fun hg62=>j6.G2 R6 (.q a8 hg62) a8⟩,?_⟩
     refine⟨_,fun H=>⟨_,_,a8,a8,fun hg63=>j6.leq (.q a8 hg63) (.i a8) a8⟩,?_⟩
     refine⟨_,fun H=>j6.S3 (.t a8) (fun hp=>(.q a8 hp)) a8,?_⟩
     refine⟨_,fun H=>j6.B1 j3.l2 M5 a8 (.t a8) a8,?_⟩
     refine .inl ?_
     refine⟨_,fun H=>j6.B1 j3.l3 M6 a8 (.t a8) a8,?_⟩
     refine .inl ?_
     refine⟨_,fun H=>j6.assign (.t a8) a8,?_⟩
     refine⟨⟨([],j2 [_,c8]),a8⟩,?_⟩
     refine A6.stF (fun y x => { x with R8:=y }) R6 (.t rfl) (.t rfl) .z (fun _ _=>rfl) ?_
     refine⟨⟨([],j2 [_,c8]),a8⟩,?_⟩
     refine A6.stF (fun y x => { x with To:=y }) R6 (.t rfl) (.t rfl) .z (fun _ _=>rfl) ?_
     refine⟨⟨([],j2 [_,c8]),a8⟩,?_⟩
     show D5 _ _ _ _ _ [] ((4,_)::(66,_)::(65,_)::(64,_)::(63,_)::(62,_)::(61,_)::(60,_)::(59,_)::(58,_)::(57,_)::(56,_)::(55,_)::(54,_)::(53,_)::(52,_)::(51,_)::(50,_)::(49,_)::(48,_)::(47,_)::(46,_)::_) _
     refine .q 7 hG ?_
     refine .go 115 a8 (.t a8) (fun hg118 => .a2c X9 (by decide) a8 (by kernel_rfl) (.q a8 hg118) (.q a8 hg118) a8) ?_
     refine .q 4 hG ?_
     refine .e1 a8 a8 ?_
     refine congrArg AV.v ?_
     unfold B0
     (repeat (first|rw [if_pos (by omega)]|rw [if_neg (by omega)]))
     (try first|rfl|(rw [show G5 p.Kind=G5 1 by rw [hc10],a13])|(rw [show G5 p.Kind=G5 2 by rw [hc18],a14])|(rw [show G5 p.Kind=G5 3 by rw [hc31],a15]))
    ·refine .q 6 hG ⟨fun hc67 => ?_,fun hc67 => ?_⟩
     ·refine .D7 [j0,j1] (by kernel_rfl) 27 [[],[(69,0)],[],[(71,2)],[],[(73,4)],[(74,5)],[(75,6)],[],[(77,8)],[(78,9)],[(76,7),(79,10)],[(80,11)],[],[(82,13)],[(83,14)],[(81,12),(84,15)],[(85,16)],[],[(87,18)],[(88,19)],[(86,17),(89,20)],[],[(91,22),(70,1)],[],[(92,24),(72,3)],[(90,21)]] [23,25] a8 (by kernel_rfl) a8 (by kernel_rfl) (by decide) ?_
      refine⟨_,fun H=>j6.A7 j3.l2 (fun x=>x.R8) M5 a8 (fun _=>a8) (.t a8) a8,?_⟩
      refine⟨_,fun H=>j6.G2 R6 (.t a8) a8,?_⟩
      refine⟨_,fun H=>j6.A7 j3.l3 (fun x=>x.To) M6 a8 (fun _=>a8) (.t a8) a8,?_⟩
      refine⟨_,fun H=>j6.G2 R6 (.t a8) a8,?_⟩
      refine⟨_,fun H=>j6.A7 j3.l2 (fun x=>x.R8) M5 a8 (fun _=>a8) (.t a8) a8,?_⟩
      refine⟨_,fun H=>j6.G2 R6 (.t a8) a8,?_⟩
      refine⟨_,fun H=>j6.geq (.t a8) (.i a8) a8,?_⟩
      refine⟨_,fun H=>j6.move (.t a8) a8,?_⟩
      refine⟨_,fun H=>⟨_,_,a8,a8,fun hg77=>j6.A7 j3.l2 (fun x=>x.R8) M5 a8 (fun _=>a8) (.t a8) a8⟩,?_⟩
      refine⟨_,fun H=>⟨_,_,a8,a8,fun hg78=>j6.G2 R6 (.q a8 hg78) a8⟩,?_⟩
      refine⟨_,fun H=>⟨_,_,a8,a8,fun hg79=>j6.lss (.q a8 hg79) (.i a8) a8⟩,?_⟩
      refine⟨_,fun H=>j6.S3 (.t a8) (fun hp=>(.q a8 hp)) a8,?_⟩
      refine⟨_,fun H=>j6.move (.t a8) a8,?_⟩
      refine⟨_,fun H=>⟨_,_,a8,a8,fun hg82=>j6.A7 j3.l3 (fun x=>x.To) M6 a8 (fun _=>a8) (.t a8) a8⟩,?_⟩
      refine⟨_,fun H=>⟨_,_,a8,a8,fun hg83=>j6.G2 R6 (.q a8 hg83) a8⟩,?_⟩
      refine⟨_,fun H=>⟨_,_,a8,a8,fun hg84=>j6.geq (.q a8 hg84) (.i a8) a8⟩,?_⟩
      refine⟨_,fun H=>j6.S3 (.t a8) (fun hp=>(.q a8 hp)) a8,?_⟩
      refine⟨_,fun H=>j6.move (.t a8) a8,?_⟩
      refine⟨_,fun H=>⟨_,_,a8,a8,fun hg87=>j6.A7 j3.l3 (fun x=>x.To) M6 a8 (fun _=>a8) (.t a8) a8⟩,?_⟩
      refine⟨_,fun H=>⟨_,_,a8,a8,fun hg88=>j6.G2 R6 (.q a8 hg88) a8⟩,?_⟩
      refine⟨_,fun H=>⟨_,_,a8,a8,fun hg89=>j6.lss (.q a8 hg89) (.i a8) a8⟩,?_⟩
      refine⟨_,fun H=>j6.S3 (.t a8) (fun hp=>(.q a8 hp)) a8,?_⟩
      refine⟨_,fun H=>j6.B1 j3.l2 M5 a8 (.t a8) a8,?_⟩
      refine .inl ?_
      refine⟨_,fun H=>j6.B1 j3.l3 M6 a8 (.t a8) a8,?_⟩
      refine .inl ?_
      refine⟨_,fun H=>j6.assign (.t a8) a8,?_⟩
      refine⟨⟨([],j2 [_,c8]),a8⟩,?_⟩
      refine A6.stF (fun y x => { x with R8:=y }) R6 (.t rfl) (.t rfl) .z (fun _ _=>rfl) ?_
      refine⟨⟨([],j2 [_,c8]),a8⟩,?_⟩
      refine A6.stF (fun y x => { x with To:=y }) R6 (.t rfl) (.t rfl) .z (fun _ _=>rfl) ?_
      refine⟨⟨([],j2 [_,c8]),a8⟩,?_⟩
      show D5 _ _ _ _ _ [] ((4,_)::(92,_)::(91,_)::(90,_)::(89,_)::(88,_)::(87,_)::(86,_)::(85,_)::(84,_)::(83,_)::(82,_)::(81,_)::(80,_)::(79,_)::(78,_)::(77,_)::(76,_)::(75,_)::(74,_)::(73,_)::(72,_)::(71,_)::(70,_)::(69,_)::_) _
      refine .q 7 hG ?_
      refine .go 115 a8 (.t a8) (fun hg118 => .a2c X9 (by decide) a8 (by kernel_rfl) (.q a8 hg118) (.q a8 hg118) a8) ?_
      refine .q 4 hG ?_
      refine .e1 a8 a8 ?_
      refine congrArg AV.v ?_
      unfold B0
      (repeat (first|rw [if_pos (by omega)]|rw [if_neg (by omega)]))
      (try first|rfl|(rw [show G5 p.Kind=G5 1 by rw [hc10],a13])|(rw [show G5 p.Kind=G5 2 by rw [hc18],a14])|(rw [show G5 p.Kind=G5 3 by rw [hc31],a15]))
     ·refine .q 6 hG ⟨fun hc93 => ?_,fun hc93 => ?_⟩
      ·refine .draw (by kernel_rfl) 6 [[],[(95,0)],[],[(97,2)],[(98,3)],[]] a8 (by kernel_rfl) a8 ?_
       refine⟨_,j6.A7 j3.l4 (fun x=>x.Name) b0o a8 (fun _=>a8) (.t a8) a8,?_⟩
       refine⟨_,j6.G2 ty9 (.t a8) a8,?_⟩
       refine⟨_,j6.A7 j3.l4 (fun x=>x.Name) b0o a8 (fun _=>a8) (.t a8) a8,?_⟩
       refine⟨_,j6.G2 ty9 (.t a8) a8,?_⟩
       refine⟨_,j6.o7 hG (b3W _) (.cons (.t a8) .nil) a8,?_⟩
       refine⟨_,j6.B1 j3.l4 b0o a8 (.t a8) a8,?_⟩
       show D5 _ _ _ _ _ [_,_] ((100,_)::(99,_)::(98,_)::(97,_)::(96,_)::(95,_)::_) _
       refine .q 9 hG ?_
       refine .go 115 a8 (.t a8) (fun hg118 => .a2c X9 (by decide) a8 (by kernel_rfl) (.q a8 hg118) (.q a8 hg118) a8) ?_
       refine .q 4 hG ?_
       refine .e1 a8 a8 ?_
       refine congrArg AV.v ?_
       unfold B0
       (repeat (first|rw [if_pos (by omega)]|rw [if_neg (by omega)]))
       (try first|rfl|(rw [show G5 p.Kind=G5 1 by rw [hc10],a13])|(rw [show G5 p.Kind=G5 2 by rw [hc18],a14])|(rw [show G5 p.Kind=G5 3 by rw [hc31],a15]))
      ·refine .q 6 hG ⟨fun hc101 => ?_,fun hc101 => ?_⟩
       ·refine .D7 [j0,j1] (by kernel_rfl) 13 [[],[(103,0)],[],[(105,2)],[(106,3)],[(107,4)],[],[(109,6)],[(110,7)],[(108,5),(111,8)],[],[(113,10),(104,1)],[(112,9)]] [11] a8 (by kernel_rfl) a8 (by kernel_rfl) (by decide) ?_
        refine⟨_,fun H=>j6.A7 j3.l5 (fun x=>x.Number) a8m a8 (fun _=>a8) (.t a8) a8,?_⟩
        refine⟨_,fun H=>j6.G2 R6 (.t a8) a8,?_⟩
        refine⟨_,fun H=>j6.A7 j3.l5 (fun x=>x.Number) a8m a8 (fun _=>a8) (.t a8) a8,?_⟩
        refine⟨_,fun H=>j6.G2 R6 (.t a8) a8,?_⟩
        refine⟨_,fun H=>j6.geq (.t a8) (.i a8) a8,?_⟩
        refine⟨_,fun H=>j6.move (.t a8) a8,?_⟩
        refine⟨_,fun H=>⟨_,_,a8,a8,fun hg109=>j6.A7 j3.l5 (fun x=>x.Number) a8m a8 (fun _=>a8) (.t a8) a8⟩,?_⟩
        refine⟨_,fun H=>⟨_,_,a8,a8,fun hg110=>j6.G2 R6 (.q a8 hg110) a8⟩,?_⟩
        refine⟨_,fun H=>⟨_,_,a8,a8,fun hg111=>j6.leq (.q a8 hg111) (.i a8) a8⟩,?_⟩
        refine⟨_,fun H=>j6.S3 (.t a8) (fun hp=>(.q a8 hp)) a8,?_⟩
        refine⟨_,fun H=>j6.B1 j3.l5 a8m a8 (.t a8) a8,?_⟩
        refine .inl ?_
        refine⟨_,fun H=>j6.assign (.t a8) a8,?_⟩
        refine⟨⟨([],j2 [_,c8]),a8⟩,?_⟩
        refine A6.stF (fun y x => { x with Number:=y }) R6 (.t rfl) (.t rfl) .z (fun _ _=>rfl) ?_
        refine⟨⟨([],j2 [_,c8]),a8⟩,?_⟩
        show D5 _ _ _ _ _ [] ((4,_)::(113,_)::(112,_)::(111,_)::(110,_)::(109,_)::(108,_)::(107,_)::(106,_)::(105,_)::(104,_)::(103,_)::_) _
        refine .q 7 hG ?_
        refine .go 115 a8 (.t a8) (fun hg118 => .a2c X9 (by decide) a8 (by kernel_rfl) (.q a8 hg118) (.q a8 hg118) a8) ?_
        refine .q 4 hG ?_
        refine .e1 a8 a8 ?_
        refine congrArg AV.v ?_
        unfold B0
        (repeat (first|rw [if_pos (by omega)]|rw [if_neg (by omega)]))
        (try first|rfl|(rw [show G5 p.Kind=G5 1 by rw [hc10],a13])|(rw [show G5 p.Kind=G5 2 by rw [hc18],a14])|(rw [show G5 p.Kind=G5 3 by rw [hc31],a15]))
       ·refine .q 7 hG ?_
        refine .go 115 a8 (.t a8) (fun hg118 => .a2c X9 (by decide) a8 (by kernel_rfl) (.q a8 hg118) (.q a8 hg118) a8) ?_
        refine .q 4 hG ?_
        refine .e1 a8 a8 ?_
        refine congrArg AV.v ?_
        unfold B0
        (repeat (first|rw [if_pos (by omega)]|rw [if_neg (by omega)]))
        (try first|rfl|(rw [show G5 p.Kind=G5 1 by rw [hc10],a13])|(rw [show G5 p.Kind=G5 2 by rw [hc18],a14])|(rw [show G5 p.Kind=G5 3 by rw [hc31],a15]))
def x5 (p:Pred):List UInt8:=J0 p.Kind.toNat++(if p.Kind=4∨p.Kind=5 then J0 p.R8.toNat++J0 p.To.toNat else if p.Kind=6 then J0 p.Name.l.length++p.Name.l else if p.Kind=7 then J0 p.Number.toNat else S1 p.Mask 8)
def U9 (p:Pred):List UInt8×Int:=if B0 p then (x5 p,0) else ([],5)
theorem y3 {p:Pred} (h:B0 p=true):U9 p=(x5 p,0):=by unfold U9;rw [if_pos h]
theorem C0 {p:Pred} (h:¬B0 p=true):U9 p=([],5):=by unfold U9;rw [if_neg h]
structure b8x (p:Pred):Prop where
 kind:1≤p.Kind∧p.Kind≤7
 from_:0≤p.R8∧p.R8≤67108864
 to:0≤p.To∧p.To≤67108864
 name:p.Name.l.length≤16
 num:0≤p.Number∧p.Number≤1000000
theorem O3 {p:Pred} (h:B0 p=true):b8x p:=by
 unfold B0 at h
 obtain⟨k,m,f,t,n,u⟩:=p
 dsimp only at h
 split at h
 ·next hk=>simp only [Bool.and_eq_true,decide_eq_true_eq,j3.mk.injEq] at h;obtain⟨_,_,_,rfl,rfl,rfl,rfl⟩:=h;exact⟨by dsimp only;omega,by simp,by simp,by simp,by simp⟩
 ·split at h
  ·next hk=>simp only [Bool.and_eq_true,decide_eq_true_eq,j3.mk.injEq] at h;obtain⟨h1,_,_,_,_,rfl,rfl⟩:=h;exact⟨by dsimp only;omega,by dsimp only;omega,by dsimp only;omega,by simp,by simp⟩
  ·split at h
   ·next hk=>simp only [Bool.and_eq_true,decide_eq_true_eq,j3.mk.injEq] at h;obtain⟨h1,_,_,_,_,rfl,rfl⟩:=h;exact⟨by dsimp only;omega,by dsimp only;omega,by dsimp only;omega,by simp,by simp⟩
   ·split at h
    ·next hk =>
     simp only [Bool.and_eq_true,decide_eq_true_eq,j3.mk.injEq] at h;obtain⟨h1,_,_,rfl,rfl,_,rfl⟩:=h
     unfold T8 at h1;simp only [Bool.and_eq_true,decide_eq_true_eq] at h1
     exact⟨by dsimp only;omega,by simp,by simp,by dsimp only;omega,by simp⟩
    ·split at h
     ·next hk=>simp only [Bool.and_eq_true,decide_eq_true_eq,j3.mk.injEq] at h;obtain⟨h1,_,_,rfl,rfl,rfl,_⟩:=h;exact⟨by dsimp only;omega,by simp,by simp,by simp,by dsimp only;omega⟩
     ·cases h
theorem H4 {p:Pred} (h:b8x p):(x5 p).length≤24:=by
 have l1:=B3 (n:=p.Kind.toNat) (by have:=h.kind;omega)
 have l2:=B3 (n:=p.R8.toNat) (by have:=h.from_;omega)
 have l3:=B3 (n:=p.To.toNat) (by have:=h.to;omega)
 have l4:=B3 (n:=p.Name.l.length) (by have:=h.name;omega)
 have l5:=B3 (n:=p.Number.toNat) (by have:=h.num;omega)
 have l6:=h.name
 have l0:(J0 p.Kind.toNat).length≤1:=a4I 0 _ (by have:=h.kind;omega)
 have l7:(J0 p.Name.l.length).length≤1:=a4I 0 _ (by omega)
 unfold x5
 rw [List.length_append]
 split
 ·rw [List.length_append];omega
 ·split
  ·rw [List.length_append];omega
  ·split
   ·omega
   ·rw [E1];omega
def numsL (l:List Int):List UInt8:=(l.map fun n=>J0 n.toNat).flatten
theorem a5R (l:List Int) (k:Nat) (h:k < l.length):numsL (l.take (k+1))=numsL (l.take k)++J0 (l[k]).toNat:=by
 unfold numsL;rw [List.take_succ_eq_append_getElem h,List.map_append,List.flatten_append];simp
theorem a1F (l:List Int) (h:∀ n∈l,0≤n∧n≤281474976710656):(numsL l).length≤7*l.length:=by
 induction l with
 | nil=>simp [numsL]
 | cons n l ih =>
  have h1:=B3 (n:=n.toNat) (by have:=h n (by simp);omega)
  have h2:=ih fun m hm=>h m (by simp [hm])
  unfold numsL at h2 ⊢
  rw [List.map_cons,List.flatten_cons,List.length_append,List.length_cons];omega
theorem a6s (b:List UInt8) (l:List Int) (hb:b.length≤600000) (hl:0 < l.length) (hl2:l.length≤1000) (h:∀ n∈l,0≤n∧n≤281474976710656):F5 gl prog 194 [.v b,.v l] [] (fun r Hs=>∃ u,r = .raw u∧Hs = [.own 5 u (b++numsL l)]):=by
 refine F5.Q6 func194 rfl (by kernel_rfl) 21 rfl rfl _ rfl _ rfl fun C hC hG => ?_
 refine .q 6 hG ?_
 refine .name 0 a8 fun w0=>(.C6 5 .z ?_)
 refine .q 6 hG ?_
 refine .D9 (α:=Nat×Value×List UInt8×Bool) [(7,_),(8,_)] (fun x R=>(0,.raw x.2.1)::(9,.v (x.1:Int))::R) (fun x => [(true,.usr x.2.1 (OF.mk 5 x.2.2.1 x.2.2.2))]) (fun x=>x.1≤l.length∧x.2.2.1=b++numsL (l.take x.1)∧(0 < x.1→x.2.2.2=true)) (fun x=>l.length - x.1) ((0,w0,b,false)) (.c2 a8 a8 (.nil _)) ?_ (.c2 a8 a8 (.c2 a8 a8 (.nil _))) (a8) fun x hF => ?_
 ·exact⟨Nat.zero_le _,by simp [numsL],by simp⟩
 obtain⟨k,w,c,o⟩:=x
 obtain⟨h1,h2,h3⟩:=hF
 dsimp only at h1 h2 h3 ⊢
 have hlen9:=a1F (l.take k) (fun n hn=>h n (List.mem_of_mem_take hn))
 have hc9:c.length≤607000:=(by rw [h2,List.length_append];have:(l.take k).length≤l.length:=(by simp<;>omega);omega)
 refine .q 6 hG ⟨fun hc10 => ?_,fun hc10 => ?_⟩
 ·refine .q 5 hG ?_
  refine .ix (by omega) (by omega) ?_
  refine .q 3 hG ?_
  refine .c1l hC .z (.as 0 a8 .z (.drop ?_))
  refine .q 3 hG ?_
  refine .h (.a1c hG (a1D _ _ (by simp<;>omega) (h _ (List.getElem_mem _)).1 (h _ (List.getElem_mem _)).2) (.cons (.t a8) (.cons (.t a8) .nil)) fun r16 Hs16 hr16 => ?_)
  obtain⟨u16,rfl,rfl⟩:=hr16
  show D5 _ _ _ _ _ _ _ ((true,_)::_)
  refine .q 5 hG ?_
  refine .c1j .z ?_
  refine .q 1 hG ?_
  refine .ad (by omega) (by omega) ?_
  refine .q 2 hG ?_
  refine⟨(k+1,u16,_,true),.c2 rfl rfl (.c2 rfl rfl (.nil _)),rfl,?_,by dsimp only;omega⟩
  exact⟨by dsimp only;omega,by dsimp only;rw [a5R l k (by omega),←List.append_assoc,←h2];rfl,fun _=>rfl⟩
 ·refine .q 2 hG ?_
  refine .c1k (h3 (by omega)) .z ?_
  refine .q 5 hG ?_
  refine .e1 a8 a8 ?_
  refine⟨_,.cons .z (.nil),?_⟩
  exact⟨_,rfl,by rw [h2,List.take_of_length_le (by omega)]⟩
theorem a30 (b:List UInt8) (l:List Int) (hb:b.length≤600000) (hl:0 < l.length) (hl2:l.length≤1000) (h:∀ n∈l,0≤n∧n≤281474976710656):u1 gl prog 194 [.v b,.v l] (fun r=>r = .v (b++numsL l)):=(a6s b l hb hl hl2 h).b0I
theorem a61 (p:Pred):u1 gl prog 159 [.v p] (fun r=>r = .t2 (.v (U9 p).1) (.v (U9 p).2)):=by
 refine u1.jn func159 (by kernel_rfl) 54 rfl fun C hC hG => ?_
 refine .q 3 hG fun b1 => ?_
 refine .q 5 hG ?_
 refine .A0 hC .z (.M1 1 a8 .z ?_)
 refine .q 2 hG ?_
 refine .k hG (a4J _) ?_
 refine .q 2 hG ?_
 refine .cond (.t a8) (fun hc8 => ?_) (fun hc8 => ?_)
 ·refine .q 6 hG ?_
  refine .e2 a8 a8 a8 ?_
  first|(exfalso;omega)|(rw [C0 (by simpa using hc8)])|(rw [y3 hpo];unfold x5;(repeat (first|rw [if_pos (by omega)]|rw [if_neg (by omega)]));(try simp [numsL]);done)|(obtain rfl:j=8:=(by omega);rw [y3 hpo];unfold x5;(repeat (first|rw [if_pos (by omega)]|rw [if_neg (by omega)]));simp [numsL])
 ·refine .q 2 hG ?_
  have hpo:B0 p=true:=by simpa using hc8
  have hp:=O3 hpo
  have hp4:=hp.name
  have hk1:(numsL [p.Kind]).length≤7:=a1F [p.Kind] (by have:=hp.kind;simp;omega)
  refine .q 3 hG ?_
  refine .bs a8 (by decide) fun b11=>(.u0 hC .z (.as 11 a8 .z (.h (.a1c hG (a6s _ _ (by decide) (by simp) (by simp) (by have:=hp.kind;simp;omega)) (.cons .b3E (.cons (.t a8) .nil)) fun r12 Hs12 hr12 => ?_))))
  obtain⟨u12,rfl,rfl⟩:=hr12
  show D5 _ _ _ _ _ _ _ ((true,_)::_)
  refine .q 16 hG ⟨fun hc15 => ?_,fun hc15 => ?_⟩
  ·refine .q 2 hG ⟨fun hc15 => ?_,fun hc15 => ?_⟩
   ·refine .q 1 hG ?_
    refine .u0 hC .z (.as 4 a8 .z ?_)
    refine .q 6 hG ?_
    refine .bs a8 (by decide) fun b23=>(.u0 hC .z (.as 23 a8 .z (.p (.o7 hG (a30 _ _ (by simp<;>omega) (by simp) (by simp) (by have:=hp.from_;have:=hp.to;simp;omega)) (.cons (.t a8) (.cons (.t a8) .nil)) ?_))))
    refine .q 4 hG ?_
    refine .e2 a8 a8 a8 ?_
    first|(exfalso;omega)|(rw [C0 (by simpa using hc8)])|(rw [y3 hpo];unfold x5;(repeat (first|rw [if_pos (by omega)]|rw [if_neg (by omega)]));(try simp [numsL]);done)|(obtain rfl:j=8:=(by omega);rw [y3 hpo];unfold x5;(repeat (first|rw [if_pos (by omega)]|rw [if_neg (by omega)]));simp [numsL])
   ·refine .q 6 hG ⟨fun hc25 => ?_,fun hc25 => ?_⟩
    ·refine .q 1 hG ?_
     refine .u0 hC .z (.as 4 a8 .z ?_)
     refine .q 4 hG ?_
     refine .h (.X7 underlying9 underlying86 underlying5 (.t a8) fun w30=>(.u0 hC .z (.as 30 a8 .z (.p (.o7 hG (b0W _ _ (by omega) (by omega)) (.cons (.t a8) (.cons (.t a8) .nil)) ?_)))))
     refine .q 6 hG ?_
     refine .e2 a8 a8 a8 ?_
     first|(exfalso;omega)|(rw [C0 (by simpa using hc8)])|(rw [y3 hpo];unfold x5;(repeat (first|rw [if_pos (by omega)]|rw [if_neg (by omega)]));(try simp [numsL]);done)|(obtain rfl:j=8:=(by omega);rw [y3 hpo];unfold x5;(repeat (first|rw [if_pos (by omega)]|rw [if_neg (by omega)]));simp [numsL])
    ·refine .q 6 hG ⟨fun hc34 => ?_,fun hc34 => ?_⟩
     ·refine .q 1 hG ?_
      refine .u0 hC .z (.as 4 a8 .z ?_)
      refine .q 4 hG ?_
      refine .bs a8 (by decide) fun b39=>(.u0 hC .z (.as 39 a8 .z (.p (.o7 hG (a30 _ _ (by simp<;>omega) (by simp) (by simp) (by have:=hp.num;simp;omega)) (.cons (.t a8) (.cons (.t a8) .nil)) ?_))))
      refine .q 4 hG ?_
      refine .e2 a8 a8 a8 ?_
      first|(exfalso;omega)|(rw [C0 (by simpa using hc8)])|(rw [y3 hpo];unfold x5;(repeat (first|rw [if_pos (by omega)]|rw [if_neg (by omega)]));(try simp [numsL]);done)|(obtain rfl:j=8:=(by omega);rw [y3 hpo];unfold x5;(repeat (first|rw [if_pos (by omega)]|rw [if_neg (by omega)]));simp [numsL])
     ·refine .q 7 hG ?_
      refine .D9 (α:=Nat×Value) [(1,_)] (fun x R=>(4,.raw x.2)::(5,.v (56 - 8*(x.1:Int)))::R) (fun x => [(true,.own 5 x.2 (numsL [p.Kind]++S1 p.Mask x.1)),(true,.fz (slc b11 0 1 1) (.v [p.Kind])),(true,.fz (ptr b1 0) (.p p))]) (fun x=>x.1≤8) (fun x=>8 - x.1) ((0,u12)) (.cons a8 (.nil _)) ?_ (.c2 a8 a8 (.cons a8 (.nil _))) (congrArg (fun q => [(true,E3.own _ _ q),_,_]) (by simp [S1])) fun x hF => ?_
      ·simp
      obtain⟨j,w⟩:=x
      dsimp only at hF ⊢
      have hk2:=E1 p.Mask j
      refine .q 7 hG ⟨fun hc42 => ?_,fun hc42 => ?_⟩
      ·refine .q 8 hG ?_
       refine .p (.b4b (.t a8) (.t a8) (by omega) (by omega) (.p (.a2v underlying77 underlying5 (.t a8) ?_)))
       refine .bs a8 (by decide) fun b51 => ?_
       refine .ap (by omega) (by omega) fun w52 => ?_
       refine .q 1 hG ?_
       refine .drop ?_
       refine .q 3 hG ?_
       refine .sb (by omega) (by omega) ?_
       refine .q 2 hG ?_
       refine⟨(j+1,w52),.cons rfl (.cons (congrArg (fun q=>some (AV.v q)) (by dsimp only;omega)) (.cons rfl (.nil _))),congrArg (fun q => [(true,E3.own _ _ q),_,_]) (by dsimp only;rw [a1z,show(56 - 8*(j:Int)).toNat=56 - 8*j by omega];try simp),?_,by dsimp only;omega⟩
       dsimp only;omega
      ·refine .q 2 hG ?_
       refine .u0 hC .z (.as 4 a8 .z ?_)
       refine .q 6 hG ?_
       refine .e2 a8 a8 a8 ?_
       first|(exfalso;omega)|(rw [C0 (by simpa using hc8)])|(rw [y3 hpo];unfold x5;(repeat (first|rw [if_pos (by omega)]|rw [if_neg (by omega)]));(try simp [numsL]);done)|(obtain rfl:j=8:=(by omega);rw [y3 hpo];unfold x5;(repeat (first|rw [if_pos (by omega)]|rw [if_neg (by omega)]));simp [numsL])
  ·refine .q 5 hG ⟨fun hc15 => ?_,fun hc15 => ?_⟩
   ·refine .q 1 hG ?_
    refine .u0 hC .z (.as 4 a8 .z ?_)
    refine .q 6 hG ?_
    refine .bs a8 (by decide) fun b23=>(.u0 hC .z (.as 23 a8 .z (.p (.o7 hG (a30 _ _ (by simp<;>omega) (by simp) (by simp) (by have:=hp.from_;have:=hp.to;simp;omega)) (.cons (.t a8) (.cons (.t a8) .nil)) ?_))))
    refine .q 4 hG ?_
    refine .e2 a8 a8 a8 ?_
    first|(exfalso;omega)|(rw [C0 (by simpa using hc8)])|(rw [y3 hpo];unfold x5;(repeat (first|rw [if_pos (by omega)]|rw [if_neg (by omega)]));(try simp [numsL]);done)|(obtain rfl:j=8:=(by omega);rw [y3 hpo];unfold x5;(repeat (first|rw [if_pos (by omega)]|rw [if_neg (by omega)]));simp [numsL])
   ·refine .q 6 hG ⟨fun hc25 => ?_,fun hc25 => ?_⟩
    ·refine .q 1 hG ?_
     refine .u0 hC .z (.as 4 a8 .z ?_)
     refine .q 4 hG ?_
     refine .h (.X7 underlying9 underlying86 underlying5 (.t a8) fun w30=>(.u0 hC .z (.as 30 a8 .z (.p (.o7 hG (b0W _ _ (by simp<;>omega) (by omega)) (.cons (.t a8) (.cons (.t a8) .nil)) ?_)))))
     refine .q 6 hG ?_
     refine .e2 a8 a8 a8 ?_
     first|(exfalso;omega)|(rw [C0 (by simpa using hc8)])|(rw [y3 hpo];unfold x5;(repeat (first|rw [if_pos (by omega)]|rw [if_neg (by omega)]));(try simp [numsL]);done)|(obtain rfl:j=8:=(by omega);rw [y3 hpo];unfold x5;(repeat (first|rw [if_pos (by omega)]|rw [if_neg (by omega)]));simp [numsL])
    ·refine .q 6 hG ⟨fun hc34 => ?_,fun hc34 => ?_⟩
     ·refine .q 1 hG ?_
      refine .u0 hC .z (.as 4 a8 .z ?_)
      refine .q 4 hG ?_
      refine .bs a8 (by decide) fun b39=>(.u0 hC .z (.as 39 a8 .z (.p (.o7 hG (a30 _ _ (by simp<;>omega) (by simp) (by simp) (by have:=hp.num;simp;omega)) (.cons (.t a8) (.cons (.t a8) .nil)) ?_))))
      refine .q 4 hG ?_
      refine .e2 a8 a8 a8 ?_
      first|(exfalso;omega)|(rw [C0 (by simpa using hc8)])|(rw [y3 hpo];unfold x5;(repeat (first|rw [if_pos (by omega)]|rw [if_neg (by omega)]));(try simp [numsL]);done)|(obtain rfl:j=8:=(by omega);rw [y3 hpo];unfold x5;(repeat (first|rw [if_pos (by omega)]|rw [if_neg (by omega)]));simp [numsL])
     ·refine .q 7 hG ?_
      refine .D9 (α:=Nat×Value) [(1,_)] (fun x R=>(4,.raw x.2)::(5,.v (56 - 8*(x.1:Int)))::R) (fun x => [(true,.own 5 x.2 (numsL [p.Kind]++S1 p.Mask x.1)),(true,.fz (slc b11 0 1 1) (.v [p.Kind])),(true,.fz (ptr b1 0) (.p p))]) (fun x=>x.1≤8) (fun x=>8 - x.1) ((0,u12)) (.cons a8 (.nil _)) ?_ (.c2 a8 a8 (.cons a8 (.nil _))) (congrArg (fun q => [(true,E3.own _ _ q),_,_]) (by simp [S1])) fun x hF => ?_
      ·simp
      obtain⟨j,w⟩:=x
      dsimp only at hF ⊢
      have hk2:=E1 p.Mask j
      refine .q 7 hG ⟨fun hc42 => ?_,fun hc42 => ?_⟩
      ·refine .q 8 hG ?_
       refine .p (.b4b (.t a8) (.t a8) (by omega) (by omega) (.p (.a2v underlying77 underlying5 (.t a8) ?_)))
       refine .bs a8 (by decide) fun b51 => ?_
       refine .ap (by simp<;>omega) (by simp<;>omega) fun w52 => ?_
       refine .q 1 hG ?_
       refine .drop ?_
       refine .q 3 hG ?_
       refine .sb (by omega) (by omega) ?_
       refine .q 2 hG ?_
       refine⟨(j+1,w52),.cons rfl (.cons (congrArg (fun q=>some (AV.v q)) (by dsimp only;omega)) (.cons rfl (.nil _))),congrArg (fun q => [(true,E3.own _ _ q),_,_]) (by dsimp only;rw [a1z,show(56 - 8*(j:Int)).toNat=56 - 8*j by omega];try simp),?_,by dsimp only;omega⟩
       dsimp only;omega
      ·refine .q 2 hG ?_
       refine .u0 hC .z (.as 4 a8 .z ?_)
       refine .q 6 hG ?_
       refine .e2 a8 a8 a8 ?_
       first|(exfalso;omega)|(rw [C0 (by simpa using hc8)])|(rw [y3 hpo];unfold x5;(repeat (first|rw [if_pos (by omega)]|rw [if_neg (by omega)]));(try simp [numsL]);done)|(obtain rfl:j=8:=(by omega);rw [y3 hpo];unfold x5;(repeat (first|rw [if_pos (by omega)]|rw [if_neg (by omega)]));simp [numsL])
theorem a5S (p:Pred):u1 gl prog 169 [.v p] (fun r=>r = .t2 (.v (U9 p).1) (.v (U9 p).2)):=by
 refine u1.jn func169 (by kernel_rfl) 50 rfl fun C hC hG => ?_
 refine .q 3 hG fun b1 => ?_
 refine .q 5 hG ?_
 refine .A0 hC .z (.M1 1 a8 .z ?_)
 refine .q 2 hG ?_
 refine .k hG (a1k _) ?_
 refine .q 2 hG ?_
 refine .cond (.t a8) (fun hc7 => ?_) (fun hc7 => ?_)
 ·refine .q 6 hG ?_
  refine .e2 a8 a8 a8 ?_
  first|(exfalso;omega)|(rw [C0 (by simpa using hc7)])|(rw [y3 hpo];unfold x5;(repeat (first|rw [if_pos (by omega)]|rw [if_neg (by omega)]));(try simp);done)
 ·refine .q 2 hG ?_
  have hpo:B0 p=true:=by simpa using hc7
  have hp:=O3 hpo
  have hpk:=hp.kind
  refine .q 3 hG ?_
  refine .h (.a1c hG (a2Z _ (by omega) (by omega)) (.cons (.t a8) .nil) fun r10 Hs10 hr10 => ?_)
  obtain⟨u10,rfl,rfl⟩:=hr10
  show D5 _ _ _ _ _ _ _ ((true,_)::_)
  refine .q 4 hG ?_
  have hk2:=E1 p.Mask 8
  have hp1:=hp.from_
  have hp2:=hp.to
  have hp3:=hp.num
  have hp4:=hp.name
  have hk1:=B3 (n:=p.Kind.toNat) (by omega)
  have hk3:=B3 (n:=p.R8.toNat) (by omega)
  have hk4:=B3 (n:=p.To.toNat) (by omega)
  have hk5:=B3 (n:=p.Number.toNat) (by omega)
  have hk6:=B3 (n:=p.Name.l.length) (by omega)
  refine .q 12 hG ⟨fun hc13 => ?_,fun hc13 => ?_⟩
  ·refine .q 2 hG ⟨fun hc13 => ?_,fun hc13 => ?_⟩
   ·refine .q 4 hG ?_
    refine .k hG ((a2I _).b0I) ?_
    refine .ap (by omega) (by omega) fun w21 => ?_
    refine .q 3 hG ?_
    refine .u0 hC .z (.as 4 a8 .z ?_)
    refine .q 6 hG ?_
    refine .e2 a8 a8 a8 ?_
    first|(exfalso;omega)|(rw [C0 (by simpa using hc7)])|(rw [y3 hpo];unfold x5;(repeat (first|rw [if_pos (by omega)]|rw [if_neg (by omega)]));(try simp);done)
   ·refine .q 7 hG ⟨fun hc22 => ?_,fun hc22 => ?_⟩
    ·refine .q 2 hG ⟨fun hc22 => ?_,fun hc22 => ?_⟩
     ·refine .D7 [j0,j1] (by kernel_rfl) 10 [[],[],[(26,1)],[(27,2)],[(25,0),(28,3)],[],[(30,5)],[(31,6)],[(29,4),(32,7)],[(33,8)]] [0,4,8,9] a8 (by kernel_rfl) a8 (by kernel_rfl) (by decide) (.inl ?_)
      refine⟨_,fun H=>j6.A7 j3.l2 (fun x=>x.R8) M5 a8 (fun _=>a8) (.t a8) a8,?_⟩
      refine⟨_,fun H=>j6.G2 R6 (.t a8) a8,?_⟩
      refine⟨_,fun H=>j6.o7 hG (F4 _ (by omega) (by omega)) (.cons (.t a8) .nil) a8,?_⟩
      refine .inl ?_
      refine⟨_,fun H=>j6.A7 j3.l3 (fun x=>x.To) M6 a8 (fun _=>a8) (.t a8) a8,?_⟩
      refine⟨_,fun H=>j6.G2 R6 (.t a8) a8,?_⟩
      refine⟨_,fun H=>j6.o7 hG (F4 _ (by omega) (by omega)) (.cons (.t a8) .nil) a8,?_⟩
      refine .inl (.inl ?_)
      refine⟨⟨([],j2 [_,c8]),a8⟩,?_⟩
      refine A6.ofP (j6.move (.t rfl) ?_)
      refine⟨⟨([],j2 [_,c8]),a8⟩,?_⟩
      refine A6.append P5 (.inl ⟨_,underlying86⟩) rfl .z (.v (.t rfl)) (by omega) (by omega) (fun w29 => ?_) rfl
      refine⟨⟨([],j2 [_,c8]),a8⟩,?_⟩
      refine A6.append P5 (.inl ⟨_,underlying86⟩) rfl .z (.v (.t rfl)) (by omega) (by omega) (fun w33 => ?_) rfl
      refine⟨⟨([],j2 [_,c8]),a8⟩,?_⟩
      refine A6.ofP (j6.assign (.t rfl) ?_)
      refine⟨⟨([],j2 [_,c8]),a8⟩,?_⟩
      show D5 _ _ _ _ _ [] ((4,_)::(33,_)::(32,_)::(31,_)::(30,_)::(29,_)::(28,_)::(27,_)::(26,_)::(25,_)::_) _
      refine .q 2 hG ?_
      refine .u0 hC .z (.as 4 a8 .z ?_)
      refine .q 6 hG ?_
      refine .e2 a8 a8 a8 ?_
      first|(exfalso;omega)|(rw [C0 (by simpa using hc7)])|(rw [y3 hpo];unfold x5;(repeat (first|rw [if_pos (by omega)]|rw [if_neg (by omega)]));(try simp);done)
     ·refine .q 6 hG ⟨fun hc34 => ?_,fun hc34 => ?_⟩
      ·refine .q 4 hG ?_
       refine .h (.X7 underlying9 underlying86 underlying5 (.t a8) fun w39=>(.u0 hC .z (.as 39 a8 .z ?_)))
       refine .k hG (a1i _ (by omega)) ?_
       refine .ap (by omega) (by omega) fun w41 => ?_
       refine .q 3 hG ?_
       refine .u0 hC .z1 (.as 4 a8 .z1 ?_)
       refine .q 6 hG ?_
       refine .e2 a8 a8 a8 ?_
       first|(exfalso;omega)|(rw [C0 (by simpa using hc7)])|(rw [y3 hpo];unfold x5;(repeat (first|rw [if_pos (by omega)]|rw [if_neg (by omega)]));(try simp);done)
      ·refine .q 6 hG ⟨fun hc42 => ?_,fun hc42 => ?_⟩
       ·refine .q 4 hG ?_
        refine .k hG (F4 _ (by omega) (by omega)) ?_
        refine .ap (by omega) (by omega) fun w48 => ?_
        refine .q 3 hG ?_
        refine .u0 hC .z (.as 4 a8 .z ?_)
        refine .q 6 hG ?_
        refine .e2 a8 a8 a8 ?_
        first|(exfalso;omega)|(rw [C0 (by simpa using hc7)])|(rw [y3 hpo];unfold x5;(repeat (first|rw [if_pos (by omega)]|rw [if_neg (by omega)]));(try simp);done)
       ·refine .q 2 hG ?_
        refine .u0 hC .z (.as 4 a8 .z ?_)
        refine .q 6 hG ?_
        refine .e2 a8 a8 a8 ?_
        first|(exfalso;omega)|(rw [C0 (by simpa using hc7)])|(rw [y3 hpo];unfold x5;(repeat (first|rw [if_pos (by omega)]|rw [if_neg (by omega)]));(try simp);done)
    ·refine .q 5 hG ⟨fun hc22 => ?_,fun hc22 => ?_⟩
     ·refine .D7 [j0,j1] (by kernel_rfl) 10 [[],[],[(26,1)],[(27,2)],[(25,0),(28,3)],[],[(30,5)],[(31,6)],[(29,4),(32,7)],[(33,8)]] [0,4,8,9] a8 (by kernel_rfl) a8 (by kernel_rfl) (by decide) (.inl ?_)
      refine⟨_,fun H=>j6.A7 j3.l2 (fun x=>x.R8) M5 a8 (fun _=>a8) (.t a8) a8,?_⟩
      refine⟨_,fun H=>j6.G2 R6 (.t a8) a8,?_⟩
      refine⟨_,fun H=>j6.o7 hG (F4 _ (by omega) (by omega)) (.cons (.t a8) .nil) a8,?_⟩
      refine .inl ?_
      refine⟨_,fun H=>j6.A7 j3.l3 (fun x=>x.To) M6 a8 (fun _=>a8) (.t a8) a8,?_⟩
      refine⟨_,fun H=>j6.G2 R6 (.t a8) a8,?_⟩
      refine⟨_,fun H=>j6.o7 hG (F4 _ (by omega) (by omega)) (.cons (.t a8) .nil) a8,?_⟩
      refine .inl (.inl ?_)
      refine⟨⟨([],j2 [_,c8]),a8⟩,?_⟩
      refine A6.ofP (j6.move (.t rfl) ?_)
      refine⟨⟨([],j2 [_,c8]),a8⟩,?_⟩
      refine A6.append P5 (.inl ⟨_,underlying86⟩) rfl .z (.v (.t rfl)) (by omega) (by omega) (fun w29 => ?_) rfl
      refine⟨⟨([],j2 [_,c8]),a8⟩,?_⟩
      refine A6.append P5 (.inl ⟨_,underlying86⟩) rfl .z (.v (.t rfl)) (by omega) (by omega) (fun w33 => ?_) rfl
      refine⟨⟨([],j2 [_,c8]),a8⟩,?_⟩
      refine A6.ofP (j6.assign (.t rfl) ?_)
      refine⟨⟨([],j2 [_,c8]),a8⟩,?_⟩
      show D5 _ _ _ _ _ [] ((4,_)::(33,_)::(32,_)::(31,_)::(30,_)::(29,_)::(28,_)::(27,_)::(26,_)::(25,_)::_) _
      refine .q 2 hG ?_
      refine .u0 hC .z (.as 4 a8 .z ?_)
      refine .q 6 hG ?_
      refine .e2 a8 a8 a8 ?_
      first|(exfalso;omega)|(rw [C0 (by simpa using hc7)])|(rw [y3 hpo];unfold x5;(repeat (first|rw [if_pos (by omega)]|rw [if_neg (by omega)]));(try simp);done)
     ·refine .q 6 hG ⟨fun hc34 => ?_,fun hc34 => ?_⟩
      ·refine .q 4 hG ?_
       refine .h (.X7 underlying9 underlying86 underlying5 (.t a8) fun w39=>(.u0 hC .z (.as 39 a8 .z ?_)))
       refine .k hG (a1i _ (by omega)) ?_
       refine .ap (by omega) (by omega) fun w41 => ?_
       refine .q 3 hG ?_
       refine .u0 hC .z1 (.as 4 a8 .z1 ?_)
       refine .q 6 hG ?_
       refine .e2 a8 a8 a8 ?_
       first|(exfalso;omega)|(rw [C0 (by simpa using hc7)])|(rw [y3 hpo];unfold x5;(repeat (first|rw [if_pos (by omega)]|rw [if_neg (by omega)]));(try simp);done)
      ·refine .q 6 hG ⟨fun hc42 => ?_,fun hc42 => ?_⟩
       ·refine .q 4 hG ?_
        refine .k hG (F4 _ (by omega) (by omega)) ?_
        refine .ap (by omega) (by omega) fun w48 => ?_
        refine .q 3 hG ?_
        refine .u0 hC .z (.as 4 a8 .z ?_)
        refine .q 6 hG ?_
        refine .e2 a8 a8 a8 ?_
        first|(exfalso;omega)|(rw [C0 (by simpa using hc7)])|(rw [y3 hpo];unfold x5;(repeat (first|rw [if_pos (by omega)]|rw [if_neg (by omega)]));(try simp);done)
       ·refine .q 2 hG ?_
        refine .u0 hC .z (.as 4 a8 .z ?_)
        refine .q 6 hG ?_
        refine .e2 a8 a8 a8 ?_
        first|(exfalso;omega)|(rw [C0 (by simpa using hc7)])|(rw [y3 hpo];unfold x5;(repeat (first|rw [if_pos (by omega)]|rw [if_neg (by omega)]));(try simp);done)
  ·refine .q 6 hG ⟨fun hc13 => ?_,fun hc13 => ?_⟩
   ·refine .q 2 hG ⟨fun hc13 => ?_,fun hc13 => ?_⟩
    ·refine .q 4 hG ?_
     refine .k hG ((a2I _).b0I) ?_
     refine .ap (by omega) (by omega) fun w21 => ?_
     refine .q 3 hG ?_
     refine .u0 hC .z (.as 4 a8 .z ?_)
     refine .q 6 hG ?_
     refine .e2 a8 a8 a8 ?_
     first|(exfalso;omega)|(rw [C0 (by simpa using hc7)])|(rw [y3 hpo];unfold x5;(repeat (first|rw [if_pos (by omega)]|rw [if_neg (by omega)]));(try simp);done)
    ·refine .q 7 hG ⟨fun hc22 => ?_,fun hc22 => ?_⟩
     ·refine .q 2 hG ⟨fun hc22 => ?_,fun hc22 => ?_⟩
      ·refine .D7 [j0,j1] (by kernel_rfl) 10 [[],[],[(26,1)],[(27,2)],[(25,0),(28,3)],[],[(30,5)],[(31,6)],[(29,4),(32,7)],[(33,8)]] [0,4,8,9] a8 (by kernel_rfl) a8 (by kernel_rfl) (by decide) (.inl ?_)
       refine⟨_,fun H=>j6.A7 j3.l2 (fun x=>x.R8) M5 a8 (fun _=>a8) (.t a8) a8,?_⟩
       refine⟨_,fun H=>j6.G2 R6 (.t a8) a8,?_⟩
       refine⟨_,fun H=>j6.o7 hG (F4 _ (by omega) (by omega)) (.cons (.t a8) .nil) a8,?_⟩
       refine .inl ?_
       refine⟨_,fun H=>j6.A7 j3.l3 (fun x=>x.To) M6 a8 (fun _=>a8) (.t a8) a8,?_⟩
       refine⟨_,fun H=>j6.G2 R6 (.t a8) a8,?_⟩
       refine⟨_,fun H=>j6.o7 hG (F4 _ (by omega) (by omega)) (.cons (.t a8) .nil) a8,?_⟩
       refine .inl (.inl ?_)
       refine⟨⟨([],j2 [_,c8]),a8⟩,?_⟩
       refine A6.ofP (j6.move (.t rfl) ?_)
       refine⟨⟨([],j2 [_,c8]),a8⟩,?_⟩
       refine A6.append P5 (.inl ⟨_,underlying86⟩) rfl .z (.v (.t rfl)) (by omega) (by omega) (fun w29 => ?_) rfl
       refine⟨⟨([],j2 [_,c8]),a8⟩,?_⟩
       refine A6.append P5 (.inl ⟨_,underlying86⟩) rfl .z (.v (.t rfl)) (by omega) (by omega) (fun w33 => ?_) rfl
       refine⟨⟨([],j2 [_,c8]),a8⟩,?_⟩
       refine A6.ofP (j6.assign (.t rfl) ?_)
       refine⟨⟨([],j2 [_,c8]),a8⟩,?_⟩
       show D5 _ _ _ _ _ [] ((4,_)::(33,_)::(32,_)::(31,_)::(30,_)::(29,_)::(28,_)::(27,_)::(26,_)::(25,_)::_) _
       refine .q 2 hG ?_
       refine .u0 hC .z (.as 4 a8 .z ?_)
       refine .q 6 hG ?_
       refine .e2 a8 a8 a8 ?_
       first|(exfalso;omega)|(rw [C0 (by simpa using hc7)])|(rw [y3 hpo];unfold x5;(repeat (first|rw [if_pos (by omega)]|rw [if_neg (by omega)]));(try simp);done)
      ·refine .q 6 hG ⟨fun hc34 => ?_,fun hc34 => ?_⟩
       ·refine .q 4 hG ?_
        refine .h (.X7 underlying9 underlying86 underlying5 (.t a8) fun w39=>(.u0 hC .z (.as 39 a8 .z ?_)))
        refine .k hG (a1i _ (by omega)) ?_
        refine .ap (by omega) (by omega) fun w41 => ?_
        refine .q 3 hG ?_
        refine .u0 hC .z1 (.as 4 a8 .z1 ?_)
        refine .q 6 hG ?_
        refine .e2 a8 a8 a8 ?_
        first|(exfalso;omega)|(rw [C0 (by simpa using hc7)])|(rw [y3 hpo];unfold x5;(repeat (first|rw [if_pos (by omega)]|rw [if_neg (by omega)]));(try simp);done)
       ·refine .q 6 hG ⟨fun hc42 => ?_,fun hc42 => ?_⟩
        ·refine .q 4 hG ?_
         refine .k hG (F4 _ (by omega) (by omega)) ?_
         refine .ap (by omega) (by omega) fun w48 => ?_
         refine .q 3 hG ?_
         refine .u0 hC .z (.as 4 a8 .z ?_)
         refine .q 6 hG ?_
         refine .e2 a8 a8 a8 ?_
         first|(exfalso;omega)|(rw [C0 (by simpa using hc7)])|(rw [y3 hpo];unfold x5;(repeat (first|rw [if_pos (by omega)]|rw [if_neg (by omega)]));(try simp);done)
        ·refine .q 2 hG ?_
         refine .u0 hC .z (.as 4 a8 .z ?_)
         refine .q 6 hG ?_
         refine .e2 a8 a8 a8 ?_
         first|(exfalso;omega)|(rw [C0 (by simpa using hc7)])|(rw [y3 hpo];unfold x5;(repeat (first|rw [if_pos (by omega)]|rw [if_neg (by omega)]));(try simp);done)
     ·refine .q 5 hG ⟨fun hc22 => ?_,fun hc22 => ?_⟩
      ·refine .D7 [j0,j1] (by kernel_rfl) 10 [[],[],[(26,1)],[(27,2)],[(25,0),(28,3)],[],[(30,5)],[(31,6)],[(29,4),(32,7)],[(33,8)]] [0,4,8,9] a8 (by kernel_rfl) a8 (by kernel_rfl) (by decide) (.inl ?_)
       refine⟨_,fun H=>j6.A7 j3.l2 (fun x=>x.R8) M5 a8 (fun _=>a8) (.t a8) a8,?_⟩
       refine⟨_,fun H=>j6.G2 R6 (.t a8) a8,?_⟩
       refine⟨_,fun H=>j6.o7 hG (F4 _ (by omega) (by omega)) (.cons (.t a8) .nil) a8,?_⟩
       refine .inl ?_
       refine⟨_,fun H=>j6.A7 j3.l3 (fun x=>x.To) M6 a8 (fun _=>a8) (.t a8) a8,?_⟩
       refine⟨_,fun H=>j6.G2 R6 (.t a8) a8,?_⟩
       refine⟨_,fun H=>j6.o7 hG (F4 _ (by omega) (by omega)) (.cons (.t a8) .nil) a8,?_⟩
       refine .inl (.inl ?_)
       refine⟨⟨([],j2 [_,c8]),a8⟩,?_⟩
       refine A6.ofP (j6.move (.t rfl) ?_)
       refine⟨⟨([],j2 [_,c8]),a8⟩,?_⟩
       refine A6.append P5 (.inl ⟨_,underlying86⟩) rfl .z (.v (.t rfl)) (by omega) (by omega) (fun w29 => ?_) rfl
       refine⟨⟨([],j2 [_,c8]),a8⟩,?_⟩
       refine A6.append P5 (.inl ⟨_,underlying86⟩) rfl .z (.v (.t rfl)) (by omega) (by omega) (fun w33 => ?_) rfl
       refine⟨⟨([],j2 [_,c8]),a8⟩,?_⟩
       refine A6.ofP (j6.assign (.t rfl) ?_)
       refine⟨⟨([],j2 [_,c8]),a8⟩,?_⟩
       show D5 _ _ _ _ _ [] ((4,_)::(33,_)::(32,_)::(31,_)::(30,_)::(29,_)::(28,_)::(27,_)::(26,_)::(25,_)::_) _
       refine .q 2 hG ?_
       refine .u0 hC .z (.as 4 a8 .z ?_)
       refine .q 6 hG ?_
       refine .e2 a8 a8 a8 ?_
       first|(exfalso;omega)|(rw [C0 (by simpa using hc7)])|(rw [y3 hpo];unfold x5;(repeat (first|rw [if_pos (by omega)]|rw [if_neg (by omega)]));(try simp);done)
      ·refine .q 6 hG ⟨fun hc34 => ?_,fun hc34 => ?_⟩
       ·refine .q 4 hG ?_
        refine .h (.X7 underlying9 underlying86 underlying5 (.t a8) fun w39=>(.u0 hC .z (.as 39 a8 .z ?_)))
        refine .k hG (a1i _ (by omega)) ?_
        refine .ap (by omega) (by omega) fun w41 => ?_
        refine .q 3 hG ?_
        refine .u0 hC .z1 (.as 4 a8 .z1 ?_)
        refine .q 6 hG ?_
        refine .e2 a8 a8 a8 ?_
        first|(exfalso;omega)|(rw [C0 (by simpa using hc7)])|(rw [y3 hpo];unfold x5;(repeat (first|rw [if_pos (by omega)]|rw [if_neg (by omega)]));(try simp);done)
       ·refine .q 6 hG ⟨fun hc42 => ?_,fun hc42 => ?_⟩
        ·refine .q 4 hG ?_
         refine .k hG (F4 _ (by omega) (by omega)) ?_
         refine .ap (by omega) (by omega) fun w48 => ?_
         refine .q 3 hG ?_
         refine .u0 hC .z (.as 4 a8 .z ?_)
         refine .q 6 hG ?_
         refine .e2 a8 a8 a8 ?_
         first|(exfalso;omega)|(rw [C0 (by simpa using hc7)])|(rw [y3 hpo];unfold x5;(repeat (first|rw [if_pos (by omega)]|rw [if_neg (by omega)]));(try simp);done)
        ·refine .q 2 hG ?_
         refine .u0 hC .z (.as 4 a8 .z ?_)
         refine .q 6 hG ?_
         refine .e2 a8 a8 a8 ?_
         first|(exfalso;omega)|(rw [C0 (by simpa using hc7)])|(rw [y3 hpo];unfold x5;(repeat (first|rw [if_pos (by omega)]|rw [if_neg (by omega)]));(try simp);done)
   ·refine .q 5 hG ⟨fun hc13 => ?_,fun hc13 => ?_⟩
    ·refine .q 4 hG ?_
     refine .k hG ((a2I _).b0I) ?_
     refine .ap (by omega) (by omega) fun w21 => ?_
     refine .q 3 hG ?_
     refine .u0 hC .z (.as 4 a8 .z ?_)
     refine .q 6 hG ?_
     refine .e2 a8 a8 a8 ?_
     first|(exfalso;omega)|(rw [C0 (by simpa using hc7)])|(rw [y3 hpo];unfold x5;(repeat (first|rw [if_pos (by omega)]|rw [if_neg (by omega)]));(try simp);done)
    ·refine .q 7 hG ⟨fun hc22 => ?_,fun hc22 => ?_⟩
     ·refine .q 2 hG ⟨fun hc22 => ?_,fun hc22 => ?_⟩
      ·refine .D7 [j0,j1] (by kernel_rfl) 10 [[],[],[(26,1)],[(27,2)],[(25,0),(28,3)],[],[(30,5)],[(31,6)],[(29,4),(32,7)],[(33,8)]] [0,4,8,9] a8 (by kernel_rfl) a8 (by kernel_rfl) (by decide) (.inl ?_)
       refine⟨_,fun H=>j6.A7 j3.l2 (fun x=>x.R8) M5 a8 (fun _=>a8) (.t a8) a8,?_⟩
       refine⟨_,fun H=>j6.G2 R6 (.t a8) a8,?_⟩
       refine⟨_,fun H=>j6.o7 hG (F4 _ (by omega) (by omega)) (.cons (.t a8) .nil) a8,?_⟩
       refine .inl ?_
       refine⟨_,fun H=>j6.A7 j3.l3 (fun x=>x.To) M6 a8 (fun _=>a8) (.t a8) a8,?_⟩
       refine⟨_,fun H=>j6.G2 R6 (.t a8) a8,?_⟩
       refine⟨_,fun H=>j6.o7 hG (F4 _ (by omega) (by omega)) (.cons (.t a8) .nil) a8,?_⟩
       refine .inl (.inl ?_)
       refine⟨⟨([],j2 [_,c8]),a8⟩,?_⟩
       refine A6.ofP (j6.move (.t rfl) ?_)
       refine⟨⟨([],j2 [_,c8]),a8⟩,?_⟩
       refine A6.append P5 (.inl ⟨_,underlying86⟩) rfl .z (.v (.t rfl)) (by omega) (by omega) (fun w29 => ?_) rfl
       refine⟨⟨([],j2 [_,c8]),a8⟩,?_⟩
       refine A6.append P5 (.inl ⟨_,underlying86⟩) rfl .z (.v (.t rfl)) (by simp<;>omega) (by simp<;>omega) (fun w33 => ?_) rfl
       refine⟨⟨([],j2 [_,c8]),a8⟩,?_⟩
       refine A6.ofP (j6.assign (.t rfl) ?_)
       refine⟨⟨([],j2 [_,c8]),a8⟩,?_⟩
       show D5 _ _ _ _ _ [] ((4,_)::(33,_)::(32,_)::(31,_)::(30,_)::(29,_)::(28,_)::(27,_)::(26,_)::(25,_)::_) _
       refine .q 2 hG ?_
       refine .u0 hC .z (.as 4 a8 .z ?_)
       refine .q 6 hG ?_
       refine .e2 a8 a8 a8 ?_
       first|(exfalso;omega)|(rw [C0 (by simpa using hc7)])|(rw [y3 hpo];unfold x5;(repeat (first|rw [if_pos (by omega)]|rw [if_neg (by omega)]));(try simp);done)
      ·refine .q 6 hG ⟨fun hc34 => ?_,fun hc34 => ?_⟩
       ·refine .q 4 hG ?_
        refine .h (.X7 underlying9 underlying86 underlying5 (.t a8) fun w39=>(.u0 hC .z (.as 39 a8 .z ?_)))
        refine .k hG (a1i _ (by omega)) ?_
        refine .ap (by omega) (by omega) fun w41 => ?_
        refine .q 3 hG ?_
        refine .u0 hC .z1 (.as 4 a8 .z1 ?_)
        refine .q 6 hG ?_
        refine .e2 a8 a8 a8 ?_
        first|(exfalso;omega)|(rw [C0 (by simpa using hc7)])|(rw [y3 hpo];unfold x5;(repeat (first|rw [if_pos (by omega)]|rw [if_neg (by omega)]));(try simp);done)
       ·refine .q 6 hG ⟨fun hc42 => ?_,fun hc42 => ?_⟩
        ·refine .q 4 hG ?_
         refine .k hG (F4 _ (by omega) (by omega)) ?_
         refine .ap (by omega) (by omega) fun w48 => ?_
         refine .q 3 hG ?_
         refine .u0 hC .z (.as 4 a8 .z ?_)
         refine .q 6 hG ?_
         refine .e2 a8 a8 a8 ?_
         first|(exfalso;omega)|(rw [C0 (by simpa using hc7)])|(rw [y3 hpo];unfold x5;(repeat (first|rw [if_pos (by omega)]|rw [if_neg (by omega)]));(try simp);done)
        ·refine .q 2 hG ?_
         refine .u0 hC .z (.as 4 a8 .z ?_)
         refine .q 6 hG ?_
         refine .e2 a8 a8 a8 ?_
         first|(exfalso;omega)|(rw [C0 (by simpa using hc7)])|(rw [y3 hpo];unfold x5;(repeat (first|rw [if_pos (by omega)]|rw [if_neg (by omega)]));(try simp);done)
     ·refine .q 5 hG ⟨fun hc22 => ?_,fun hc22 => ?_⟩
      ·refine .D7 [j0,j1] (by kernel_rfl) 10 [[],[],[(26,1)],[(27,2)],[(25,0),(28,3)],[],[(30,5)],[(31,6)],[(29,4),(32,7)],[(33,8)]] [0,4,8,9] a8 (by kernel_rfl) a8 (by kernel_rfl) (by decide) (.inl ?_)
       refine⟨_,fun H=>j6.A7 j3.l2 (fun x=>x.R8) M5 a8 (fun _=>a8) (.t a8) a8,?_⟩
       refine⟨_,fun H=>j6.G2 R6 (.t a8) a8,?_⟩
       refine⟨_,fun H=>j6.o7 hG (F4 _ (by omega) (by omega)) (.cons (.t a8) .nil) a8,?_⟩
       refine .inl ?_
       refine⟨_,fun H=>j6.A7 j3.l3 (fun x=>x.To) M6 a8 (fun _=>a8) (.t a8) a8,?_⟩
       refine⟨_,fun H=>j6.G2 R6 (.t a8) a8,?_⟩
       refine⟨_,fun H=>j6.o7 hG (F4 _ (by omega) (by omega)) (.cons (.t a8) .nil) a8,?_⟩
       refine .inl (.inl ?_)
       refine⟨⟨([],j2 [_,c8]),a8⟩,?_⟩
       refine A6.ofP (j6.move (.t rfl) ?_)
       refine⟨⟨([],j2 [_,c8]),a8⟩,?_⟩
       refine A6.append P5 (.inl ⟨_,underlying86⟩) rfl .z (.v (.t rfl)) (by omega) (by omega) (fun w29 => ?_) rfl
       refine⟨⟨([],j2 [_,c8]),a8⟩,?_⟩
       refine A6.append P5 (.inl ⟨_,underlying86⟩) rfl .z (.v (.t rfl)) (by simp<;>omega) (by simp<;>omega) (fun w33 => ?_) rfl
       refine⟨⟨([],j2 [_,c8]),a8⟩,?_⟩
       refine A6.ofP (j6.assign (.t rfl) ?_)
       refine⟨⟨([],j2 [_,c8]),a8⟩,?_⟩
       show D5 _ _ _ _ _ [] ((4,_)::(33,_)::(32,_)::(31,_)::(30,_)::(29,_)::(28,_)::(27,_)::(26,_)::(25,_)::_) _
       refine .q 2 hG ?_
       refine .u0 hC .z (.as 4 a8 .z ?_)
       refine .q 6 hG ?_
       refine .e2 a8 a8 a8 ?_
       first|(exfalso;omega)|(rw [C0 (by simpa using hc7)])|(rw [y3 hpo];unfold x5;(repeat (first|rw [if_pos (by omega)]|rw [if_neg (by omega)]));(try simp);done)
      ·refine .q 6 hG ⟨fun hc34 => ?_,fun hc34 => ?_⟩
       ·refine .q 4 hG ?_
        refine .h (.X7 underlying9 underlying86 underlying5 (.t a8) fun w39=>(.u0 hC .z (.as 39 a8 .z ?_)))
        refine .k hG (a1i _ (by omega)) ?_
        refine .ap (by simp<;>omega) (by simp<;>omega) fun w41 => ?_
        refine .q 3 hG ?_
        refine .u0 hC .z1 (.as 4 a8 .z1 ?_)
        refine .q 6 hG ?_
        refine .e2 a8 a8 a8 ?_
        first|(exfalso;omega)|(rw [C0 (by simpa using hc7)])|(rw [y3 hpo];unfold x5;(repeat (first|rw [if_pos (by omega)]|rw [if_neg (by omega)]));(try simp);done)
       ·refine .q 6 hG ⟨fun hc42 => ?_,fun hc42 => ?_⟩
        ·refine .q 4 hG ?_
         refine .k hG (F4 _ (by omega) (by omega)) ?_
         refine .ap (by omega) (by omega) fun w48 => ?_
         refine .q 3 hG ?_
         refine .u0 hC .z (.as 4 a8 .z ?_)
         refine .q 6 hG ?_
         refine .e2 a8 a8 a8 ?_
         first|(exfalso;omega)|(rw [C0 (by simpa using hc7)])|(rw [y3 hpo];unfold x5;(repeat (first|rw [if_pos (by omega)]|rw [if_neg (by omega)]));(try simp);done)
        ·refine .q 2 hG ?_
         refine .u0 hC .z (.as 4 a8 .z ?_)
         refine .q 6 hG ?_
         refine .e2 a8 a8 a8 ?_
         first|(exfalso;omega)|(rw [C0 (by simpa using hc7)])|(rw [y3 hpo];unfold x5;(repeat (first|rw [if_pos (by omega)]|rw [if_neg (by omega)]));(try simp);done)
def a3n (k:Tag) (b:List UInt8) (x:o5):Bool:=decide (x.Key=k)&&decide (x.U4=b)
def a3F (k:Tag) (b:List UInt8):List UInt8:=a2i (a3E k ((b.take (b.length - 32)).take 8)) ((b.take (b.length - 32)).drop 8) ((b.take (b.length - 32)).drop 8).length
def A5 (a:D0) (k:Tag) (b:List UInt8):List UInt8×Int :=
 if a.K2 then match a.y2.find? (a3n k b) with
  | some x=>(x.Plain,0)
  | none=>([],14)
 else if b.length < 40∨296 < b.length then ([],14) else
 if (a0m k.l (a3k.l++b.take (b.length - 32))).l=b.drop (b.length - 32) then (a3F k b,0) else ([],14)
theorem a3o {a:D0} {k:Tag} {b:List UInt8} {x:o5} (hf:a.K2=true) (h:a.y2.find? (a3n k b)=some x):A5 a k b=(x.Plain,0):=by unfold A5;rw [if_pos hf,h]
theorem a6t {a:D0} {k:Tag} {b:List UInt8} (hf:a.K2=true) (h:a.y2.find? (a3n k b)=none):A5 a k b=([],14):=by unfold A5;rw [if_pos hf,h]
theorem a6u {a:D0} {k:Tag} {b:List UInt8} (hf:a.K2=false) (h:b.length < 40∨296 < b.length):A5 a k b=([],14):=by unfold A5;rw [if_neg (by rw [hf];decide),if_pos h]
theorem a7s {a:D0} {k:Tag} {b:List UInt8} (hf:a.K2=false) (h:¬(b.length < 40∨296 < b.length)) (h2:¬(a0m k.l (a3k.l++b.take (b.length - 32))).l=b.drop (b.length - 32)):A5 a k b=([],14):=by
 unfold A5;rw [if_neg (by rw [hf];decide),if_neg h,if_neg h2]
theorem a5T {a:D0} {k:Tag} {b:List UInt8} (hf:a.K2=false) (h:¬(b.length < 40∨296 < b.length)) (h2:(a0m k.l (a3k.l++b.take (b.length - 32))).l=b.drop (b.length - 32)):A5 a k b=(a3F k b,0):=by
 unfold A5;rw [if_neg (by rw [hf];decide),if_neg h,if_pos h2]
theorem b6w (a:D0) (k:Tag) (b:List UInt8) (hpl:∀ x∈a.y2,x.Plain.length≤1000000):u1 gl prog 98 [.v a,.v k,.v b] (fun r=>r = .t2 (.v (A5 a k b).1) (.v (A5 a k b).2)):=by
 refine u1.jn func98 (by kernel_rfl) 64 rfl fun C hC hG => ?_
 refine .q 3 hG fun b3 => ?_
 refine .q 1 hG fun b4 => ?_
 refine .q 5 hG ?_
 refine .A0 hC .z (.M1 4 a8 .z (.A0 hC .z1 (.M1 3 a8 .z1 ?_)))
 refine .q 4 hG ?_
 refine .cond (.t a8) (fun hc13 => ?_) (fun hc13 => ?_)
 ·refine .q 9 hG ?_
  refine .D9 (α:=Nat) [(2,_),(4,_),(15,_),(16,_)] (fun i R=>(17,.v (i:Int))::R) (Function.const _ _) (fun i=>i≤a.y2.length∧∀ j (hj:j < a.y2.length),j < i→a3n k b a.y2[j]=false) (fun i=>a.y2.length - i) (0) (.c2 a8 a8 (.c2 a8 a8 (.nil _))) ?_ (.c2 a8 a8 (.c2 a8 a8 (.cons a8 (.nil _)))) (a8) fun i hF => ?_
  ·simp
  obtain⟨h1,h2⟩:=hF
  refine .q 6 hG ⟨fun hc18 => ?_,fun hc18 => ?_⟩
  ·refine .q 5 hG ?_
   refine .ix (by omega) (by omega) ?_
   refine .q 2 hG fun b9 => ?_
   refine .q 7 hG ?_
   refine .p (.a7m underlying26 sz5 underlying5 a8k (.t a8) (.t a8) ?_)
   refine .q 4 hG ?_
   refine .go 25 a8 (.t a8) (fun hg29 => .o7 hG (a1h _ _) (.cons (.q a8 hg29) (.cons (.q a8 hg29) .nil)) a8) ?_
   refine .q 2 hG ?_
   refine .cond (.t a8) (fun hc30 => ?_) (fun hc30 => ?_)
   ·refine .q 1 hG ?_
    have hb6:=hpl _ (List.getElem_mem (l:=a.y2) (n:=(i:Int).toNat) (by omega))
    refine .q 3 hG ?_
    refine .k hG (b0N _ (by omega)) ?_
    refine .q 4 hG ?_
    refine .e2 a8 a8 a8 ?_
    rw [a3o hc13 (a5O (k:=i) (by omega) hc30 h2)];rfl
   ·refine .q 1 hG ?_
    refine .drop (.T7 15 a8 fun hl15 => ?_)
    refine .q 1 hG ?_
    refine .ad (by omega) (by omega) ?_
    refine .q 2 hG ?_
    refine⟨i+1,.c2 rfl rfl (.c2 rfl rfl (.cons rfl (.nil _))),rfl,?_,by omega⟩
    refine⟨by omega,fun j hj hji => ?_⟩;rcases Nat.lt_or_ge j i with h|h;exact h2 j hj h;(obtain rfl:j=i:=by omega);exact hc30
  ·refine .q 7 hG ?_
   refine .e2 a8 a8 a8 ?_
   rw [a6t hc13 (a2J fun j hj=>h2 j hj (by omega))]
 ·refine .q 13 hG ?_
  refine .cond (.t a8) (fun hc42 => ?_) (fun hc42 => ?_)
  ·refine .q 6 hG ?_
   refine .e2 a8 a8 a8 ?_
   rw [a6u hc13 (by simp at hc42;omega)]
  ·refine .q 6 hG ?_
   refine .sb (by omega) (by simp at * <;> omega) (.p (.b6h ty5 underlying86 (.t a8) (.t a8) (by simp at * <;> omega) (by omega) ?_))
   refine .q 6 hG ?_
   refine .p (.o7 hG (b4c _ _ (by simp at * <;> omega)) (.cons (.t a8) (.cons (.t a8) .nil)) ?_)
   refine .q 1 hG fun b11 => ?_
   refine .q 4 hG ?_
   refine .A0 hC .z (.M1 11 a8 .z (.draw (by kernel_rfl) 7 [[],[],[],[(53,2)],[(52,1),(54,3)],[(51,0),(55,4)],[(56,5)]] a8 (by kernel_rfl) a8 ?_))
   refine⟨_,j6.P0 (by decide) M0 (.t a8) a8,?_⟩
   refine⟨_,j6.move (.t a8) a8,?_⟩
   refine⟨_,j6.move (.t a8) a8,?_⟩
   refine⟨_,j6.len underlying86 (.t a8) a8,?_⟩
   refine⟨_,j6.b7N ty5 underlying86 (.t a8) (.t a8) (by omega) (by simp<;>omega) a8,?_⟩
   refine⟨_,j6.o7 hG (c0k _ _) (.cons (.t a8) (.cons (.t a8) .nil)) a8,?_⟩
   refine⟨_,j6.not (.t a8) a8,?_⟩
   show D5 _ _ _ _ _ [] ((57,_)::(56,_)::(55,_)::(54,_)::(53,_)::(52,_)::(51,_)::_) _
   refine .q 1 hG ?_
   refine .cond (.t a8) (fun hc57 => ?_) (fun hc57 => ?_)
   ·refine .q 6 hG ?_
    refine .e2 a8 a8 a8 ?_
    have e1:((b.length:Int) - 32).toNat=b.length - 32:=by omega
    have e2:(List.take (b.length - 32) b).length=b.length - 32:=by simp
    rw [e1,Int.toNat_natCast,e2] at hc57
    rw [a7s hc13 (by simp at hc42;omega) (by simpa using hc57)]
   ·refine .q 2 hG ?_
    refine .draw (by kernel_rfl) 8 [[],[],[(59,1)],[],[(61,3)],[(58,0),(60,2),(62,4)],[(63,5)],[]] a8 (by kernel_rfl) a8 ?_
    refine⟨_,j6.G2 y6 (.t a8) a8,?_⟩
    refine⟨_,j6.move (.t a8) a8,?_⟩
    refine⟨_,j6.b6h ty5 underlying86 (.t a8) (.i a8) (by omega) (by simp at * <;> omega) a8,?_⟩
    refine⟨_,j6.move (.t a8) a8,?_⟩
    refine⟨_,j6.b7N ty5 underlying86 (.t a8) (.i a8) (by omega) (by simp at * <;> omega) a8,?_⟩
    refine⟨_,j6.o7 hG ((c0p _ _ _ (by simp<;>omega) (by simp at * <;> omega)).b0I) (.cons (.t a8) (.cons (.t a8) (.cons (.t a8) .nil))) a8,?_⟩
    refine⟨_,j6.assign (.t a8) a8,?_⟩
    refine⟨_,j6.assign (.i a8) a8,?_⟩
    show D5 _ _ _ _ _ [] ((7,_)::(6,_)::(63,_)::(62,_)::(61,_)::(60,_)::(59,_)::(58,_)::_) _
    refine .q 2 hG ?_
    refine .e2 a8 a8 a8 ?_
    have e1:((b.length:Int) - 32).toNat=b.length - 32:=by omega
    have e2:(List.take (b.length - 32) b).length=b.length - 32:=by simp
    rw [e1,Int.toNat_natCast,e2] at hc57
    rw [a5T hc13 (by simp at hc42;omega) (by simpa using hc57),e1];rfl
def a6v (b:List UInt8):Nat→UInt64
 | 0=>0
 | i+1=>256*a6v b i+(b.getD i 0).toUInt64
theorem b4k (b:List UInt8) (j:Nat) (h:(j:Int).toNat < b.length):256*a6v b j+(b[(j:Int).toNat]'h).toUInt64=a6v b (j+1):=by
 have e:b.getD j 0=b[(j:Int).toNat]'h:=by
  rw [List.getD_eq_getElem?_getD,List.getElem?_eq_getElem (by omega)];rfl
 rw [a6v,e]
theorem c3n (n:UInt64) (k:Nat) (hk:k < 64):(n >>> UInt64.ofNat k).toUInt8.toNat=n.toNat/2^k % 256:=by
 rw [UInt64.toNat_toUInt8,UInt64.toNat_shiftRight,UInt64.toNat_ofNat_of_lt' (by have:UInt64.size=18446744073709551616:=rfl;omega),Nat.mod_eq_of_lt hk,Nat.shiftRight_eq_div_pow]
theorem b4l (b:List UInt8) (h:8≤b.length):S1 (a6v b 8) 8=b.take 8:=by
 obtain⟨c0,c1,c2,c3,c4,c5,c6,c7,r,rfl⟩:∃ c0 c1 c2 c3 c4 c5 c6 c7 r,b=c0::c1::c2::c3::c4::c5::c6::c7::r:=by
  match b,h with
  | c0::c1::c2::c3::c4::c5::c6::c7::r,_=>exact⟨_,_,_,_,_,_,_,_,_,rfl⟩
 have l0:=c0.toNat_lt;have l1:=c1.toNat_lt;have l2:=c2.toNat_lt;have l3:=c3.toNat_lt
 have l4:=c4.toNat_lt;have l5:=c5.toNat_lt;have l6:=c6.toNat_lt;have l7:=c7.toNat_lt
 have hN:(a6v (c0::c1::c2::c3::c4::c5::c6::c7::r) 8).toNat=256*(256*(256*(256*(256*(256*(256*c0.toNat+c1.toNat)+c2.toNat)+c3.toNat)+c4.toNat)+c5.toNat)+c6.toNat)+c7.toNat:=by
  simp only [a6v,UInt64.toNat_add,UInt64.toNat_mul,List.getD_cons_zero,List.getD_cons_succ,UInt8.toNat_toUInt64,UInt64.toNat_ofNat]
  omega
 generalize a6v (c0::c1::c2::c3::c4::c5::c6::c7::r) 8=n at hN
 have key:∀ (k:Nat) (c:UInt8),k < 64→n.toNat/2^k % 256=c.toNat→(n >>> UInt64.ofNat k).toUInt8=c:=fun k c hk h=>UInt8.toNat_inj.1 ((c3n n k hk).trans h)
 have e:S1 n 8 = [(n >>> UInt64.ofNat (56 - 8*0)).toUInt8,(n >>> UInt64.ofNat (56 - 8*1)).toUInt8,(n >>> UInt64.ofNat (56 - 8*2)).toUInt8,(n >>> UInt64.ofNat (56 - 8*3)).toUInt8,(n >>> UInt64.ofNat (56 - 8*4)).toUInt8,(n >>> UInt64.ofNat (56 - 8*5)).toUInt8,(n >>> UInt64.ofNat (56 - 8*6)).toUInt8,(n >>> UInt64.ofNat (56 - 8*7)).toUInt8]:=rfl
 rw [e]
 simp only [List.take_succ_cons,List.take_zero]
 rw [key (56 - 8*0) c0 (by omega) (by simp<;>omega),key (56 - 8*1) c1 (by omega) (by simp<;>omega),key (56 - 8*2) c2 (by omega) (by simp<;>omega),key (56 - 8*3) c3 (by omega) (by simp<;>omega),
  key (56 - 8*4) c4 (by omega) (by simp<;>omega),key (56 - 8*5) c5 (by omega) (by simp<;>omega),key (56 - 8*6) c6 (by omega) (by simp<;>omega),key (56 - 8*7) c7 (by omega) (by simp<;>omega)]
theorem b5y (a:D0) (k:Tag) (b:List UInt8) (hpl:∀ x∈a.y2,x.Plain.length≤1000000):u1 gl prog 112 [.v a,.v k,.v b] (fun r=>r = .t2 (.v (A5 a k b).1) (.v (A5 a k b).2)):=by
 refine u1.jn func112 (by kernel_rfl) 89 rfl fun C hC hG => ?_
 refine .q 3 hG fun b3 => ?_
 refine .q 1 hG fun b4 => ?_
 refine .q 5 hG ?_
 refine .A0 hC .z (.M1 4 a8 .z (.A0 hC .z1 (.M1 3 a8 .z1 ?_)))
 refine .q 4 hG ?_
 refine .cond (.t a8) (fun hc14 => ?_) (fun hc14 => ?_)
 ·refine .q 6 hG ?_
  refine .D9 (α:=Nat) [(2,_),(3,_),(4,_)] (fun i R=>(8,.v (i:Int))::R) (Function.const _ _) (fun i=>i≤a.y2.length∧∀ j (hj:j < a.y2.length),j < i→a3n k b a.y2[j]=false) (fun i=>a.y2.length - i) (0) (.c2 a8 a8 (.cons a8 (.nil _))) ?_ (.c2 a8 a8 (.c2 a8 a8 (.nil _))) (a8) fun i hF => ?_
  ·simp
  obtain⟨h1,h2⟩:=hF
  refine .q 10 hG ⟨fun hc19 => ?_,fun hc19 => ?_⟩
  ·refine .q 4 hG ?_
   refine .draw (by kernel_rfl) 18 [[],[(22,0)],[],[(23,1),(24,2)],[(25,3)],[(26,4)],[],[(27,5),(28,6)],[(29,7)],[],[(31,9)],[],[(32,10),(33,11)],[(34,12)],[(35,13)],[],[(36,14),(37,15)],[(30,8),(38,16)]] a8 (by kernel_rfl) a8 ?_
   refine⟨_,j6.A7 m5.l4 (fun x=>x.y2) a5D a8 (fun _=>a8) (.t a8) a8,?_⟩
   refine⟨_,j6.G2 b3U (.t a8) a8,?_⟩
   refine⟨_,j6.move (.t a8) a8,?_⟩
   refine⟨_,j6.idx a5s underlying36 (.t a8) (.t a8) (by omega) (by omega) a8,?_⟩
   refine⟨_,j6.A7 o5.l0 (fun x=>x.Key) b4U a8 (fun _=>a8) (.t a8) a8,?_⟩
   refine⟨_,j6.G2 y6 (.t a8) a8,?_⟩
   refine⟨_,j6.G2 y6 (.t a8) a8,?_⟩
   refine⟨_,j6.a7m underlying26 sz5 underlying5 a8k (.t a8) (.t a8) a8,?_⟩
   refine⟨_,j6.move (.t a8) a8,?_⟩
   refine⟨_,⟨_,_,a8,a8,fun hg31=>j6.A7 m5.l4 (fun x=>x.y2) a5D a8 (fun _=>a8) (.t a8) a8⟩,?_⟩
   refine⟨_,⟨_,_,a8,a8,fun hg32=>j6.G2 b3U (.q a8 hg32) a8⟩,?_⟩
   refine⟨_,⟨_,_,a8,a8,fun hg33=>j6.move (.t a8) a8⟩,?_⟩
   refine⟨_,⟨_,_,a8,a8,fun hg34=>j6.idx a5s underlying36 (.q a8 hg34) (.q a8 hg34) (by first|omega|(simp;omega)|(have:=hg34;simp at this;omega)) (by first|omega|(simp;omega)|(have:=hg34;simp at this;omega)) a8⟩,?_⟩
   refine⟨_,⟨_,_,a8,a8,fun hg35=>j6.A7 o5.l3 (fun x=>x.U4) b0r a8 (fun _=>a8) (.q a8 hg35) a8⟩,?_⟩
   refine⟨_,⟨_,_,a8,a8,fun hg36=>j6.G2 a2H (.q a8 hg36) a8⟩,?_⟩
   refine⟨_,⟨_,_,a8,a8,fun hg37=>j6.move (.t a8) a8⟩,?_⟩
   refine⟨_,⟨_,_,a8,a8,fun hg38=>j6.o7 hG (a5L _ _) (.cons (.q a8 hg38) (.cons (.q a8 hg38) .nil)) a8⟩,?_⟩
   refine⟨_,j6.S3 (.t a8) (fun hp=>(.q a8 hp)) a8,?_⟩
   show D5 _ _ _ _ _ [] ((39,_)::(38,_)::(37,_)::(36,_)::(35,_)::(34,_)::(33,_)::(32,_)::(31,_)::(30,_)::(29,_)::(28,_)::(27,_)::(26,_)::(25,_)::(24,_)::(23,_)::(22,_)::_) _
   refine .q 1 hG ?_
   refine .cond (.t a8) (fun hc39 => ?_) (fun hc39 => ?_)
   ·refine .q 1 hG ?_
    have hb6:=hpl _ (List.getElem_mem (l:=a.y2) (n:=(i:Int).toNat) (by omega))
    refine .q 1 hG ?_
    refine .h (.buildSlice (α:=UInt8) ty5 underlying86 .nil a8 (by decide) fun b40 => ?_)
    refine .q 3 hG ?_
    refine .ix (by omega) (by omega) ?_
    refine .q 2 hG ?_
    refine .ap (by simp at * <;> omega) (by simp at * <;> omega) fun w47 => ?_
    refine .q 3 hG ?_
    refine .u0 hC .z (.as 6 a8 .z ?_)
    refine .q 1 hG ?_
    refine .e2 a8 a8 a8 ?_
    rw [a3o hc14 (a5O (k:=i) (by omega) hc39 h2)];rfl
   ·refine .q 1 hG ?_
    refine .T7 17 a8 fun hl17 => ?_
    refine .q 2 hG ?_
    refine .ad (by omega) (by omega) ?_
    refine .q 2 hG ?_
    refine⟨i+1,.c2 rfl rfl (.c2 rfl rfl (.nil _)),rfl,?_,by omega⟩
    refine⟨by omega,fun j hj hji => ?_⟩;rcases Nat.lt_or_ge j i with h|h;exact h2 j hj h;(obtain rfl:j=i:=by omega);exact hc39
  ·refine .q 7 hG ?_
   refine .e2 a8 a8 a8 ?_
   rw [a6t hc14 (a2J fun j hj=>h2 j hj (by omega))]
 ·refine .q 17 hG ?_
  refine .cond (.t a8) (fun hc55 => ?_) (fun hc55 => ?_)
  ·refine .q 6 hG ?_
   refine .e2 a8 a8 a8 ?_
   rw [a6u hc14 (by simp at hc55;omega)]
  ·refine .q 2 hG ?_
   refine .a7n (by kernel_rfl) 8 [[],[],[],[(58,2)],[(57,1),(59,3)],[(60,4)],[(56,0),(61,5)],[]] [7] a8 (by kernel_rfl) a8 (by kernel_rfl) (by decide) ?_
   refine⟨_,fun H=>j6.P0 (by decide) M0 (.t a8) a8,?_⟩
   refine⟨_,fun H=>j6.move (.t a8) a8,?_⟩
   refine⟨_,fun H=>j6.move (.t a8) a8,?_⟩
   refine⟨_,fun H=>j6.sub (.t a8) (.i a8) (by omega) (by simp at * <;> omega) a8,?_⟩
   refine⟨_,fun H=>j6.b6h ty5 underlying86 (.t a8) (.t a8) (by simp at * <;> omega) (by omega) a8,?_⟩
   refine⟨_,fun H=>j6.o7 hG (a4F _ _ (by simp) (by simp at * <;> omega)) (.cons (.s [98,111,120] (by decide) (by decide)) (.cons (.t a8) .nil)) a8,?_⟩
   refine⟨_,fun H=>j6.o7 hG (a47 _ _ (by simp) (by simp at * <;> omega)) (.cons (.t a8) (.cons (.t a8) .nil)) a8,?_⟩
   refine .inl ?_
   refine A6.alloc y6 fun b10 => ?_
   show D5 _ _ _ _ _ [_] ((10,_)::(62,_)::(61,_)::(60,_)::(59,_)::(58,_)::(57,_)::(56,_)::_) _
   refine .q 4 hG ?_
   refine .A0 hC .z (.M1 10 a8 .z (.draw (by kernel_rfl) 7 [[],[],[],[(65,2)],[(64,1),(66,3)],[(63,0),(67,4)],[(68,5)]] a8 (by kernel_rfl) a8 ?_))
   refine⟨_,j6.P0 (by decide) M0 (.t a8) a8,?_⟩
   refine⟨_,j6.move (.t a8) a8,?_⟩
   refine⟨_,j6.move (.t a8) a8,?_⟩
   refine⟨_,j6.sub (.t a8) (.i a8) (by omega) (by simp at * <;> omega) a8,?_⟩
   refine⟨_,j6.b7N ty5 underlying86 (.t a8) (.t a8) (by simp at * <;> omega) (by omega) a8,?_⟩
   refine⟨_,j6.o7 hG (a5L _ _) (.cons (.t a8) (.cons (.t a8) .nil)) a8,?_⟩
   refine⟨_,j6.not (.t a8) a8,?_⟩
   show D5 _ _ _ _ _ [] ((69,_)::(68,_)::(67,_)::(66,_)::(65,_)::(64,_)::(63,_)::_) _
   refine .q 1 hG ?_
   refine .cond (.t a8) (fun hc69 => ?_) (fun hc69 => ?_)
   ·refine .q 6 hG ?_
    refine .e2 a8 a8 a8 ?_
    have e1:((b.length:Int) - 32).toNat=b.length - 32:=by omega
    rw [e1] at hc69
    have h9:(!decide ((a0m k.l (a3k.l++b.take (b.length - 32))).l=b.drop (b.length - 32)))=true:=hc69
    rw [a7s hc14 (by simp at hc55;omega) (by simpa using h9)]
   ·refine .q 11 hG ?_
    refine .D9 (α:=Nat) [(2,_),(4,_),(9,_)] (fun j R=>(11,.v (a6v b j))::(12,.v (j:Int))::R) (Function.const _ _) (fun j=>j≤8) (fun j=>8 - j) (0) (.c2 a8 a8 (.cons a8 (.nil _))) ?_ (.c2 a8 a8 (.c2 a8 a8 (.cons a8 (.nil _)))) (a8) fun j hF => ?_
    ·simp
    refine .q 7 hG ⟨fun hc71 => ?_,fun hc71 => ?_⟩
    ·refine .q 5 hG ?_
     refine .p (.b1u (.u64 256 a8) (.t a8) ?_)
     refine .q 2 hG ?_
     refine .ix (by omega) (by simp at * <;> omega) ?_
     refine .q 1 hG ?_
     refine .p (.a79 underlying5 underlying77 (.t a8) (.p (.b7m (.t a8) (.t a8) ?_)))
     refine .q 4 hG ?_
     refine .ad (by omega) (by omega) ?_
     refine .q 2 hG ?_
     refine⟨j+1,.cons (congrArg (fun q=>some (AV.v q)) (b4k b j _)) (.c2 rfl rfl (.c2 rfl rfl (.nil _))),rfl,?_,by omega⟩
     omega
    ·refine .q 2 hG ?_
     refine .draw (by kernel_rfl) 9 [[],[],[],[],[(85,3)],[(84,2),(86,4)],[(82,0),(83,1),(87,5)],[(88,6)],[]] a8 (by kernel_rfl) a8 ?_
     refine⟨_,j6.G2 y6 (.t a8) a8,?_⟩
     refine⟨_,j6.move (.t a8) a8,?_⟩
     refine⟨_,j6.move (.t a8) a8,?_⟩
     refine⟨_,j6.move (.t a8) a8,?_⟩
     refine⟨_,j6.sub (.t a8) (.i a8) (by omega) (by simp at * <;> omega) a8,?_⟩
     refine⟨_,j6.c2Q ty5 underlying86 (.t a8) (.i a8) (.t a8) (by omega) (by simp at * <;> omega) (by omega) a8,?_⟩
     refine⟨_,j6.o7 hG (a9K _ _ _ (by simp at * <;> omega)) (.cons (.t a8) (.cons (.t a8) (.cons (.t a8) .nil))) a8,?_⟩
     refine⟨_,j6.assign (.t a8) a8,?_⟩
     refine⟨_,j6.assign (.i a8) a8,?_⟩
     show D5 _ _ _ _ _ [] ((7,_)::(6,_)::(88,_)::(87,_)::(86,_)::(85,_)::(84,_)::(83,_)::(82,_)::_) _
     refine .q 2 hG ?_
     refine .e2 a8 a8 a8 ?_
     obtain rfl:j=8:=by omega
     have e1:((b.length:Int) - 32).toNat=b.length - 32:=by omega
     rw [e1] at hc69
     have h9:(!decide ((a0m k.l (a3k.l++b.take (b.length - 32))).l=b.drop (b.length - 32)))=false:=hc69
     rw [a5T hc14 (by simp at hc55;omega) (by simpa using h9),e1,←a7r,b4l b (by simp at hc55;omega)]
     unfold a3F
     rw [List.take_take,Nat.min_eq_left (by simp at hc55;omega)];rfl
abbrev Y0:=m9
abbrev Q4:=p9
abbrev Bnd:=p8
abbrev Rq:=u6
def T3 {α:Type} (f:α→List UInt8) (l:List α):List UInt8:=(l.map f).flatten
theorem a1G {α:Type} (f:α→List UInt8) (l:List α) (k:Nat) (h:k < l.length):T3 f (l.take (k+1))=T3 f (l.take k)++f l[k]:=by
 unfold T3;rw [List.take_succ_eq_append_getElem h,List.map_append,List.flatten_append];simp
theorem a16 {α:Type} (f:α→List UInt8) (l:List α) (m:Nat) (h:∀ x∈l,(f x).length≤m):(T3 f l).length≤m*l.length:=by
 induction l with
 | nil=>simp [T3]
 | cons n l ih =>
  have h1:=h n (by simp)
  have h2:=ih fun x hx=>h x (by simp [hx])
  unfold T3 at h2 ⊢
  rw [List.map_cons,List.flatten_cons,List.length_append,List.length_cons,Nat.mul_add];omega
theorem a2s {α:Type} (f:α→List UInt8) (l:List α) (m k:Nat) (h:∀ x∈l,(f x).length≤m):(T3 f (l.take k)).length≤m*l.length:=by
 have h1:=a16 f (l.take k) m fun x hx=>h x (List.mem_of_mem_take hx)
 have h2:(l.take k).length≤l.length:=by simp;omega
 exact Nat.le_trans h1 (Nat.mul_le_mul_left m h2)
def I4 (c:Y0):Bool :=
 if c.Q2 then decide (c.a4x=default)&&decide (0≤c.G6)&&decide (c.G6≤7)&&(decide (1≤c.j8.length)&&decide (c.j8.length≤1024))&&(decide (1≤c.U4.length)&&decide (c.U4.length≤1024))
 else B0 c.a4x&&decide (c.G6=0)&&decide (c.j8.length=0)&&decide (c.U4.length=0)
def a0R (x:List UInt8):List UInt8:=J0 x.length++x
def E7 (c:Y0):List UInt8:=if c.Q2 then 2::(J0 c.G6.toNat++a0R c.j8++a0R c.U4) else 1::x5 c.a4x
def W9 (c:Y0):List UInt8×Int:=if I4 c then (E7 c,0) else ([],5)
theorem a1H {x:List UInt8} (h:x.length≤1024):(a0R x).length≤1031:=by
 have:=B3 (n:=x.length) (by omega)
 unfold a0R;rw [List.length_append];omega
theorem a23 {c:Y0} (h:I4 c=true) (h3:c.Q2=true):c.a4x=default∧0≤c.G6∧c.G6≤7∧1≤c.j8.length∧c.j8.length≤1024∧1≤c.U4.length∧c.U4.length≤1024:=by
 unfold I4 at h;rw [if_pos h3] at h
 simp only [Bool.and_eq_true,decide_eq_true_eq] at h
 obtain⟨⟨⟨⟨a,b⟩,c⟩,d,e⟩,f,g⟩:=h
 exact⟨a,b,c,d,e,f,g⟩
theorem a25 {c:Y0} (h:I4 c=true) (h3:c.Q2=false):B0 c.a4x=true∧c.G6=0∧c.j8 = []∧c.U4 = []:=by
 unfold I4 at h;rw [if_neg (by rw [h3];decide)] at h
 simp only [Bool.and_eq_true,decide_eq_true_eq,List.length_eq_zero_iff] at h
 obtain⟨⟨⟨a,b⟩,c⟩,d⟩:=h
 exact⟨a,b,c,d⟩
theorem a2l {c:Y0} (h:I4 c=true):(E7 c).length≤2100:=by
 unfold E7
 cases h3:c.Q2
 ·obtain⟨h1,_⟩:=a25 h h3
  have:=H4 (O3 h1)
  simp;omega
 ·obtain⟨_,p0,p1,_,t1,_,b1⟩:=a23 h h3
  have l1:=B3 (n:=c.G6.toNat) (by omega)
  have l2:=a1H t1
  have l3:=a1H b1
  simp;omega
def a0K (l:List Y0):List Pred:=(l.filter fun c => !c.Q2).map (·.a4x)
theorem a2m (l:List Y0) (k:Nat) (h:k < l.length):a0K (l.take (k+1))=a0K (l.take k)++if l[k].Q2 then [] else [l[k].a4x]:=by
 unfold a0K;rw [List.take_succ_eq_append_getElem h,List.filter_append,List.map_append]
 cases h2:l[k].Q2<;>simp [h2]
theorem a0Z (l:List Y0):(a0K l).length≤l.length:=by
 unfold a0K;rw [List.length_map];exact List.length_filter_le _ _
def a1l (l:List Y0):Int:=(l.length:Int) - (a0K l).length
def O4 (n:Int):List UInt8 := [109,105,110,116]++J0 n.toNat
def Y5 (c:Y0):List UInt8 := [99,97,118,101,97,116]++(W9 c).1
def E9:List UInt8 := [110,111,100,101]
def A9 (t:List UInt8):List UInt8 := [115,101,97,108]++t
def a0D (t:List UInt8):List UInt8 := [103,114,97,110,116]++t
def X3 (p:Pred):List UInt8 := [99,111,110,100,105,116,105,111,110]++(U9 p).1
def a1m (r:Rq):List UInt8:=J0 r.Gate.toNat++J0 r.E4.toNat
def a27 (r:Rq):List UInt8 := [114,101,113,117,101,115,116]++a1m r
def X4 (leaf:Tag) (r:Rq):List UInt8 := [98,105,110,100]++(leaf.l++a1m r)
def S2 (r:Rq):Bool:=decide (0≤r.Gate)&&decide (r.Gate < 8)&&decide (1≤r.E4)&&decide (r.E4≤281474976710656)
theorem a1n {r:Rq} (h:S2 r=true):0≤r.Gate∧r.Gate < 8∧1≤r.E4∧r.E4≤281474976710656:=by
 unfold S2 at h;simp only [Bool.and_eq_true,decide_eq_true_eq] at h;omega
def Y1 (p:Tag→List UInt8→Tag×Bool) (o:Option (List Tag)) (m:List UInt8):Option (List Tag) :=
 o.bind fun l=>if (p (l.getLastD default) m).2 then some (l ++ [(p (l.getLastD default) m).1]) else none
def K8 (p:Tag→List UInt8→Tag×Bool) (k:Tag) (l:List (List UInt8)):Option (List Tag):=l.foldl (Y1 p) (some [k])
theorem a5a (p:Tag→List UInt8→Tag×Bool) (l:List (List UInt8)):l.foldl (Y1 p) none=none:=by
 induction l with
 | nil=>rfl
 | cons m l ih=>exact ih
theorem a8I (p:Tag→List UInt8→Tag×Bool) (k:Tag) (l:List (List UInt8)) (i:Nat) (h:i < l.length):K8 p k (l.take (i+1))=Y1 p (K8 p k (l.take i)) l[i]:=by
 unfold K8;rw [List.take_succ_eq_append_getElem h,List.foldl_append];rfl
theorem a8J (p:Tag→List UInt8→Tag×Bool) (k:Tag) (l:List (List UInt8)) (i:Nat) (h:K8 p k (l.take i)=none):K8 p k l=none:=by
 unfold K8 at *
 rw [←List.take_append_drop i l,List.foldl_append,h,a5a]
def D2 (n:Int) (l:List Y0):List (List UInt8):=O4 n::l.map Y5
def J6 (e n:Int):Bool:=decide (1≤e)&&decide (e≤1000)&&decide (1≤n)&&decide (n≤1073741824)
def U7 (a:D0) (root:u4) (n:Int) (l:List Y0):List Tag×Int :=
 if J6 root.Number n=false then ([],1) else if l.all I4=false then ([],5) else
 match K8 (l9 a) root.Key (D2 n l) with
 | some t=>(t.drop 1,0)
 | none=>([],19)
def a0c (a:D0) (o:Option (List Tag)) (t:Tag):Option (List Tag) :=
 o.bind fun l=>if (l9 a t E9).2 then some (l ++ [(l9 a t E9).1]) else none
def a0d (a:D0) (l:List Tag):Option (List Tag):=l.foldl (a0c a) (some [])
theorem a8K (a:D0) (l:List Tag):l.foldl (a0c a) none=none:=by
 induction l with
 | nil=>rfl
 | cons m l ih=>exact ih
theorem a7t (a:D0) (l:List Tag) (i:Nat) (h:i < l.length):a0d a (l.take (i+1))=a0c a (a0d a (l.take i)) l[i]:=by
 unfold a0d;rw [List.take_succ_eq_append_getElem h,List.foldl_append];rfl
theorem b2k (a:D0) (l:List Tag) (i:Nat) (h:a0d a (l.take i)=none):a0d a l=none:=by
 unfold a0d at *
 rw [←List.take_append_drop i l,List.foldl_append,h,a8K]
def a0e (a:D0) (l:List Tag):List Tag×Int:=match a0d a l with|some t=>(t,0)|none=>([],19)
def V9 (a:D0) (o:Option Tag) (p:Pred):Option Tag :=
 o.bind fun t=>if B0 p=true∧p.Kind≠7∧(l9 a t (X3 p)).2=true then some (l9 a t (X3 p)).1 else none
theorem a5U (a:D0) (l:List Pred):l.foldl (V9 a) none=none:=by
 induction l with
 | nil=>rfl
 | cons m l ih=>exact ih
def a62 (a:D0) (k:Tag) (t:List UInt8):Option Tag:=if (l9 a k (a0D t)).2 then some (l9 a k (a0D t)).1 else none
def W0 (a:D0) (k:Tag) (t:List UInt8) (l:List Pred):Option Tag:=l.foldl (V9 a) (a62 a k t)
theorem a9S (a:D0) (k:Tag) (t:List UInt8) (l:List Pred) (i:Nat) (h:i < l.length):W0 a k t (l.take (i+1))=V9 a (W0 a k t (l.take i)) l[i]:=by
 unfold W0;rw [List.take_succ_eq_append_getElem h,List.foldl_append];rfl
theorem a63 (a:D0) (k:Tag) (t:List UInt8) (l:List Pred) (i:Nat) (h:W0 a k t (l.take i)=none):W0 a k t l=none:=by
 unfold W0 at *
 rw [←List.take_append_drop i l,List.foldl_append,h,a5U]
def V0 (a:D0) (leaf:Tag) (r:Rq):Tag×Bool:=if S2 r then l9 a leaf (a27 r) else (default,false)
def M8 (a:D0) (t leaf:Tag) (r:Rq):Tag×Bool:=if S2 r then l9 a t (X4 leaf r) else (default,false)
theorem a9q {a:D0} {k:Tag} {m:List UInt8} (h:(l9 a k m).2=false):(l9 a k m).1=default:=by
 unfold l9 M9 at *
 split
 ·next hf=>rw [if_pos hf] at h;cases hq:S4 a k m with|none=>rfl|some x=>rw [hq] at h;cases h
 ·next hf =>
  rw [if_neg hf] at h
  split
  ·rfl
  ·next h2=>rw [if_neg h2] at h;cases h
def a0t (a:D0) (k:Tag) (t:List UInt8) (l:List Pred):Tag×Bool:=((W0 a k t l).getD default,(W0 a k t l).isSome)
theorem b2l (a:D0) (k:Tag) (m:List UInt8):(if (l9 a k m).2=true then some (l9 a k m).1 else none).isSome=(l9 a k m).2∧(if (l9 a k m).2=true then some (l9 a k m).1 else none).getD default=(l9 a k m).1:=by
 cases h:(l9 a k m).2 with
 | false=>rw [if_neg (by decide)];exact⟨rfl,(a9q h).symm⟩
 | true=>rw [if_pos rfl];exact⟨rfl,rfl⟩
theorem a9T (a:D0) (k:Tag) (t:List UInt8) (l:List Pred):(W0 a k t (l.take 0)).isSome=(l9 a k (a0D t)).2∧(W0 a k t (l.take 0)).getD default=(l9 a k (a0D t)).1:=b2l a k (a0D t)
theorem b2m {a:D0} {k:Tag} {t:List UInt8} {l:List Pred} {i:Nat} (h:i < l.length) (hb:(!B0 l[i]||decide (l[i].Kind=7))=true):W0 a k t l=none:=by
 refine a63 a k t l (i+1) ?_
 rw [a9S a k t l i h]
 cases W0 a k t (l.take i) with
 | none=>rfl
 | some u =>
  unfold V9
  simp only [Option.bind_some]
  rw [if_neg]
  rintro⟨h1,h2,_⟩
  simp [h1,h2] at hb
theorem a9U {a : D0} {k : Tag} {t : List UInt8} {l : List Pred} {i : Nat} (h : i < l.length) (hs : (W0 a k t (l.take i)).isSome = true) (hb : (!B0 l[i] || decide (l[i].Kind = 7)) = false) :
    (W0 a k t (l.take (i+1))).isSome=(l9 a ((W0 a k t (l.take i)).getD default) (X3 l[i])).2∧(W0 a k t (l.take (i+1))).getD default=(l9 a ((W0 a k t (l.take i)).getD default) (X3 l[i])).1:=by
  rw [a9S a k t l i h]
  obtain⟨u,hu⟩:=Option.isSome_iff_exists.1 hs
  rw [hu]
  have hb2:B0 l[i]=true∧l[i].Kind≠7:=by simpa using hb
  have e:V9 a (some u) l[i]=if (l9 a u (X3 l[i])).2=true then some (l9 a u (X3 l[i])).1 else none:=by
    unfold V9
    simp only [Option.bind_some]
    by_cases h3:(l9 a u (X3 l[i])).2=true
    · rw [if_pos ⟨hb2.1,hb2.2,h3⟩,if_pos h3]
    · rw [if_neg fun h4=>h3 h4.2.2,if_neg h3]
  rw [e]
  exact b2l a u _
theorem a7u (p:Pred):decide ((U9 p).2≠0) = !B0 p:=by
 unfold U9
 cases h:B0 p<;>simp
theorem a8L {s:List Tag} (h:0 < s.length) (h2:((s.length:Int) - 1).toNat < s.length):s[((s.length:Int) - 1).toNat]=s.getLastD default:=by
 rw [List.getLastD_eq_getLast?,List.getLast?_eq_getElem?]
 have:((s.length:Int) - 1).toNat=s.length - 1:=by omega
 simp only [this]
 rw [List.getElem?_eq_getElem (by omega)];rfl
theorem b2n {p:Tag→List UInt8→Tag×Bool} {k:Tag} {l:List (List UInt8)} {i:Nat} {s:List Tag} (h:i < l.length) (hw:K8 p k (l.take i)=some s) (hb:(p (s.getLastD default) l[i]).2=false):K8 p k l=none:=by
 refine a8J p k l (i+1) ?_
 rw [a8I p k l i h,hw]
 show(if (p (s.getLastD default) l[i]).2 then some (s ++ [(p (s.getLastD default) l[i]).1]) else none)=none
 rw [hb];rfl
theorem a9V {p:Tag→List UInt8→Tag×Bool} {k:Tag} {l:List (List UInt8)} {i:Nat} {s:List Tag} (h:i < l.length) (hw:K8 p k (l.take i)=some s) (hb:(p (s.getLastD default) l[i]).2=true):K8 p k (l.take (i+1))=some (s ++ [(p (s.getLastD default) l[i]).1]):=by
 rw [a8I p k l i h,hw]
 show(if (p (s.getLastD default) l[i]).2 then some (s ++ [(p (s.getLastD default) l[i]).1]) else none)=_
 rw [hb];rfl
theorem a8M (n:Int) (l:List Y0) (i:Nat) (h:i < l.length):D2 n (l.take (i+1))=D2 n (l.take i) ++ [Y5 l[i]]:=by
 unfold D2;rw [List.take_succ_eq_append_getElem h,List.map_append];rfl
theorem a5V {p:Tag→List UInt8→Tag×Bool} {k:Tag}:∀ {l:List (List UInt8)} {s r:List Tag},l.foldl (Y1 p) (some s)=some r→∃ T,r=s++T∧T.length=l.length
 | [],s,r,h=>⟨[],by cases h;simp,rfl⟩
 | m::l,s,r,h=>by
  rw [List.foldl_cons] at h
  cases h2:Y1 p (some s) m with
  | none=>rw [h2,a5a] at h;cases h
  | some v =>
   rw [h2] at h
   obtain⟨T,h3,h4⟩:=a5V (k:=k) h
   have:∃ t,v=s ++ [t]:=by
    have h5:(if (p (s.getLastD default) m).2 then some (s ++ [(p (s.getLastD default) m).1]) else none)=some v:=h2
    split at h5
    ·exact⟨_,(Option.some.inj h5).symm⟩
    ·cases h5
   obtain⟨t,rfl⟩:=this
   exact⟨t::T,by rw [h3,List.append_assoc];rfl,by simp [h4]⟩
theorem b4m {a:D0} {k:Tag} {n:Int} {l:List Y0} (h:(l9 a k (O4 n)).2=true):K8 (l9 a) k ((D2 n l).take 1)=some (k :: [(l9 a k (O4 n)).1]):=by
 show(if (l9 a k (O4 n)).2 then some ([k] ++ [(l9 a k (O4 n)).1]) else none)=_
 rw [h];rfl
theorem b6x {a:D0} {k:Tag} {n:Int} {l:List Y0} (h:(l9 a k (O4 n)).2=false):K8 (l9 a) k (D2 n l)=none:=by
 refine a8J _ k _ 1 ?_
 show(if (l9 a k (O4 n)).2 then some ([k] ++ [(l9 a k (O4 n)).1]) else none)=_
 rw [h];rfl
theorem a32 {n:Int} {l:List Y0} {i:Nat} (h:i < l.length) (h2:i+1 < (D2 n l).length):(D2 n l)[i+1]=Y5 l[i]:=by
 simp only [D2,List.getElem_cons_succ,List.getElem_map]
theorem a0E (n:Int) (l:List Y0):(D2 n l).length=l.length+1:=by unfold D2;simp
theorem getLastD_cons {k:Tag} {s:List Tag} (h:0 < s.length):(k::s).getLastD default=s.getLastD default:=by
 cases s with
 | nil=>simp at h
 | cons b s=>simp [List.getLastD]
theorem b6y {a : D0} {k : Tag} {n : Int} {l : List Y0} {i : Nat} {s : List Tag} (h : i < l.length) (h0 : 0 < s.length) (hw : K8 (l9 a) k ((D2 n l).take (i + 1)) = some (k :: s)) (hb : (l9 a (s.getLastD default) (Y5 l[i])).2 = true) :
    K8 (l9 a) k ((D2 n l).take (i+1+1))=some (k::(s ++ [(l9 a (s.getLastD default) (Y5 l[i])).1])):=by
  have h2:i+1 < (D2 n l).length:=by rw [a0E];omega
  have:=a9V h2 hw (by rw [a32 h,getLastD_cons h0];exact hb)
  rw [this,a32 h,getLastD_cons h0];rfl
theorem b8y {a : D0} {k : Tag} {n : Int} {l : List Y0} {i : Nat} {s : List Tag} (h : i < l.length) (h0 : 0 < s.length) (hw : K8 (l9 a) k ((D2 n l).take (i + 1)) = some (k :: s)) (hb : (l9 a (s.getLastD default) (Y5 l[i])).2 = false) :
    K8 (l9 a) k (D2 n l)=none:=by
  have h2:i+1 < (D2 n l).length:=by rw [a0E];omega
  exact b2n h2 hw (by rw [a32 h,getLastD_cons h0];exact hb)
theorem a9W {e n:Int} (h:(decide (e < 1)||decide (1000 < e)||decide (n < 1)||decide (1073741824 < n))=true):J6 e n=false:=by
 simp only [Bool.or_eq_true,decide_eq_true_eq] at h
 unfold J6;simp only [Bool.and_eq_false_iff,decide_eq_false_iff_not];omega
theorem a0S {e n:Int} (h:(decide (e < 1)||decide (1000 < e)||decide (n < 1)||decide (1073741824 < n))=false):J6 e n=true:=by
 simp only [Bool.or_eq_false_iff,decide_eq_false_iff_not] at h
 unfold J6;simp only [Bool.and_eq_true,decide_eq_true_eq];omega
theorem a4K {e n:Int} (h:J6 e n=true):1≤e∧e≤1000∧1≤n∧n≤1073741824:=by
 unfold J6 at h;simp only [Bool.and_eq_true,decide_eq_true_eq] at h;omega
theorem b5z {a:D0} {root:u4} {n:Int} {l:List Y0} (h:J6 root.Number n=false):U7 a root n l=([],1):=by unfold U7;rw [if_pos h]
theorem b5A {a:D0} {root:u4} {n:Int} {l:List Y0} (h:J6 root.Number n=true) (h2:l.all I4=false):U7 a root n l=([],5):=by unfold U7;rw [if_neg (by rw [h];decide),if_pos h2]
theorem b2o {a:D0} {root:u4} {n:Int} {l:List Y0} (h:J6 root.Number n=true) (h2:l.all I4=true) (h3:K8 (l9 a) root.Key (D2 n l)=none):U7 a root n l=([],19):=by
 unfold U7;rw [if_neg (by rw [h];decide),if_neg (by rw [h2];decide),h3]
theorem b5B {a:D0} {root:u4} {n:Int} {l:List Y0} {t:List Tag} (h:J6 root.Number n=true) (h2:l.all I4=true) (h3:K8 (l9 a) root.Key (D2 n l)=some t):U7 a root n l=(t.drop 1,0):=by
 unfold U7;rw [if_neg (by rw [h];decide),if_neg (by rw [h2];decide),h3]
theorem a9X {a:D0} {l:List Tag} {i:Nat} (h:i < l.length) (hb:(l9 a l[i] E9).2=false):a0d a l=none:=by
 refine b2k a l (i+1) ?_
 rw [a7t a l i h]
 cases a0d a (l.take i) with
 | none=>rfl
 | some s =>
  show(if (l9 a l[i] E9).2 then some (s ++ [(l9 a l[i] E9).1]) else none)=none
  rw [hb];rfl
theorem a8N {a:D0} {l:List Tag} {i:Nat} {s:List Tag} (h:i < l.length) (hw:a0d a (l.take i)=some s) (hb:(l9 a l[i] E9).2=true):a0d a (l.take (i+1))=some (s ++ [(l9 a l[i] E9).1]):=by
 rw [a7t a l i h,hw]
 show(if (l9 a l[i] E9).2 then some (s ++ [(l9 a l[i] E9).1]) else none)=_
 rw [hb];rfl
def K3 (d:Bnd):List UInt8:=a0R d.j8++J0 d.l8.length++T3 x5 d.l8++d.Proof.l
def a1o (b:Q4):List UInt8:=numsL [1,b.Request.Gate,b.Request.E4,b.D3,b.A8,b.j9.length]++T3 E7 b.j9++b.Proof.l++J0 b.j4.length++T3 K3 b.j4
def a3p (d:Bnd):Bool:=decide (d.j8.length < 1)||decide (1024 < d.j8.length)||d.l8.any fun p => !B0 p
def a3G (d:Bnd):Bool:=d.l8.any fun p=>decide (p.Kind=7)
def a1N (d:Bnd):Bool:=decide (8 < d.l8.length)
def V1 (l:List Bnd) (k:Nat):Bool:=(List.range k).any fun i=>(l.take i).any fun x=>decide (x.j8=(l.getD i default).j8)
def a3q (l:List Bnd):Bool:=V1 l l.length
theorem a33 (l:List Bnd) (k:Nat) (h:k < l.length):V1 l (k+1)=(V1 l k||(l.take k).any fun x=>decide (x.j8=l[k].j8)):=by
 unfold V1;rw [List.range_succ,List.any_append];simp [List.getD_eq_getElem?_getD,h]
def P4 (b:Q4):Bool:=S2 b.Request&&(decide (1≤b.D3)&&decide (b.D3≤1000)&&decide (1≤b.A8)&&decide (b.A8≤1073741824))
def S6 (b:Q4):Bool:=decide (64 < b.j9.length)||decide (8 < a1l b.j9)||decide (8 < b.j4.length)||b.j4.any a1N
def F7 (b:Q4):Int :=
 if P4 b=false then 1 else if S6 b then 2 else if (b.j9.any fun c => !I4 c)||b.j4.any a3p then 5
 else if b.j4.any a3G then 6 else if a3q b.j4 then 10 else 0
def L7 (b:Q4):Int:=if F7 b≠0 then F7 b else if 4096 < (a1o b).length then 2 else 0
structure a9Y (b:Q4):Prop where
 range:P4 b=true
 rq:0≤b.Request.Gate∧b.Request.Gate < 8∧1≤b.Request.E4∧b.Request.E4≤281474976710656
 num:1≤b.D3∧b.D3≤1000∧1≤b.A8∧b.A8≤1073741824
 a34:b.j9.length≤64
 c18:b.j4.length≤8
 a7O:∀ d∈b.j4,d.l8.length≤8
 cav:∀ c∈b.j9,I4 c=true
 tick:∀ d∈b.j4,1≤d.j8.length∧d.j8.length≤1024
 con:∀ d∈b.j4,∀ p∈d.l8,B0 p=true
 b8z:∀ d∈b.j4,∀ p∈d.l8,p.Kind≠7
 c4P:a3q b.j4=false
theorem a4L {b:Q4} (h:F7 b=0):a9Y b:=by
 unfold F7 at h
 split at h
 ·cases h
 ·next h1 =>
  split at h
  ·cases h
  ·next h2 =>
   split at h
   ·cases h
   ·next h3 =>
    split at h
    ·cases h
    ·next h4 =>
     split at h
     ·cases h
     ·next h5 =>
      have h1:P4 b=true:=by simpa using h1
      have h2:S6 b=false:=by simpa using h2
      simp only [Bool.or_eq_true,not_or,Bool.not_eq_true] at h3
      obtain⟨h3a,h3b⟩:=h3
      have h6:=h1
      unfold P4 at h6
      unfold S6 at h2
      simp only [Bool.and_eq_true,decide_eq_true_eq] at h6
      simp only [Bool.not_eq_true] at h4
      simp only [Bool.or_eq_false_iff,decide_eq_false_iff_not,List.any_eq_false] at h2 h3a h3b h4
      refine⟨h1,a1n h6.1,by omega,by omega,by omega,fun d hd => ?_,fun c hc=>by simpa using h3a c hc,fun d hd => ?_,fun d hd p hp => ?_,fun d hd p hp => ?_,by simpa using h5⟩
      ·have:=h2.2 d hd;unfold a1N at this;simp at this;exact this
      ·have:=h3b d hd;unfold a3p at this;simp only [Bool.not_eq_true,Bool.or_eq_false_iff,decide_eq_false_iff_not] at this;omega
      ·have:=h3b d hd;unfold a3p at this;simp at this;exact this.2 p hp
      ·have:=h4 d hd;unfold a3G at this;simp at this;exact this p hp
theorem b0X {d:Bnd} (h1:d.l8.length≤8) (h2:d.j8.length≤1024) (h3:∀ p∈d.l8,B0 p=true):(K3 d).length≤1400:=by
 have l1:=a1H h2
 have l2:=B3 (n:=d.l8.length) (by omega)
 have l3:=a16 x5 d.l8 24 fun p hp=>H4 (O3 (h3 p hp))
 unfold K3
 simp only [List.length_append,d.Proof.len]
 omega
theorem b2p (m M:UInt64) (k:Nat) (hk:k < 64) (hM:M.toNat=2^k - 1):(m &&& M) >>> UInt64.ofNat k=0:=by
 apply UInt64.toNat_inj.1
 rw [UInt64.toNat_shiftRight,UInt64.toNat_and,hM,Nat.and_two_pow_sub_one_eq_mod,Nat.shiftRight_eq_div_pow]
 have e:(UInt64.ofNat k).toNat=k:=by simp;omega
 rw [e,Nat.mod_eq_of_lt (show k < 64 by omega)]
 show m.toNat % 2^k/2^k=0
 exact Nat.div_eq_of_lt (Nat.mod_lt _ (Nat.two_pow_pos k))
theorem c0q (n:Nat) (hn:n < 64):((1:UInt64) <<< UInt64.ofNat n).toNat=2^n:=by
 rw [UInt64.toNat_shiftLeft]
 have e:(UInt64.ofNat n).toNat=n:=by simp;omega
 rw [e,Nat.mod_eq_of_lt (show n < 64 by omega)]
 show(1 <<< n) % 2^64=2^n
 rw [Nat.one_shiftLeft]
 exact Nat.mod_eq_of_lt (Nat.pow_lt_pow_right (by decide) hn)
theorem ofInt_ofNat {v:Int} (h0:0≤v):UInt64.ofInt v=UInt64.ofNat v.toNat:=by
 obtain⟨n,rfl⟩:=Int.eq_ofNat_of_zero_le h0
 apply UInt64.toNat_inj.1
 simp [UInt64.ofInt];omega
theorem a0u {x:UInt64} {b:Int} (hb:b=64∨b=32∨b=7) (h3:b < 64) (h:¬(x &&& ((1 <<< UInt64.ofInt b) - 1))=0):a1j (x &&& ((1 <<< UInt64.ofInt b) - 1)) b=true:=by
 have h2:(x &&& ((1 <<< UInt64.ofInt b) - 1)) >>> UInt64.ofNat b.toNat=0:=by
  rcases hb with rfl|rfl|rfl
  ·omega
  ·exact b2p x _ 32 (by decide) (by decide)
  ·exact b2p x _ 7 (by decide) (by decide)
 unfold a1j;rw [h2];simp [h]
theorem a0v {x:UInt64} {b:Int} (hb:b=64∨b=32∨b=7) (h3:¬b < 64) (h:¬x=0):a1j x b=true:=by
 obtain rfl:b=64:=by omega
 unfold a1j;simp [h]
theorem a0w {v b:Int} (hb:b=64∨b=32∨b=7) (h0:0≤v) (h1:v < b):a1j (1 <<< UInt64.ofInt v) b=true:=by
 have hv:v.toNat < 64:=by omega
 have h2:=c0q v.toNat hv
 rw [ofInt_ofNat h0]
 have hne:¬((1:UInt64) <<< UInt64.ofNat v.toNat)=0:=fun e=>by
  rw [e] at h2
  have:=Nat.two_pow_pos v.toNat
  simp at h2;omega
 unfold a1j
 by_cases h64:b=64
 ·simp [hne,h64]
 ·have h3:((1:UInt64) <<< UInt64.ofNat v.toNat) >>> UInt64.ofNat b.toNat=0:=by
   apply UInt64.toNat_inj.1
   rw [UInt64.toNat_shiftRight,h2,Nat.shiftRight_eq_div_pow]
   have e:(UInt64.ofNat b.toNat).toNat=b.toNat:=by simp;omega
   rw [e,Nat.mod_eq_of_lt (show b.toNat < 64 by omega)]
   exact Nat.div_eq_of_lt (Nat.pow_lt_pow_right (by decide) (by omega))
  rw [h3];simp [hne]
theorem a4M (w:Value) (d:m6) (b:Int) (hd:G9 d) (hb:b=64∨b=32∨b=7):F5 gl prog 85 [dk w,.v b] [.ob w d] (fun r Hs=>∃ m:UInt64,a1j m b=true∧∃ d',G9 d'∧r = .v m∧Hs = [.ob w d']):=by
 refine F5.Q6 func85 rfl (by kernel_rfl) 45 rfl rfl _ rfl _ rfl fun C hC hG => ?_
 refine .q 12 hG ?_
 refine .h (.C8 hG (G0 _ _ _ (by first|assumption|exact y1 _) (by omega) (by omega)) .z (.cons (.t a8) (.cons (.i a8) .nil)) (by rintro _ _ ⟨_,_,_,_,_,_,rfl⟩;exact⟨_,rfl⟩) fun r7 B7 hr7 => ?_)
 obtain⟨v7,d7,h07,h17,hd7,rfl,hB⟩:=hr7
 cases hB
 refine .q 8 hG ⟨fun hc8 => ?_,fun hc8 => ?_⟩
 ·refine .q 2 hG ?_
  refine .h (.C8 hG (G0 _ _ _ (by first|assumption|exact y1 _) (by omega) (by omega)) .z (.cons (.t a8) (.cons (.i a8) .nil)) (by rintro _ _ ⟨_,_,_,_,_,_,rfl⟩;exact⟨_,rfl⟩) fun r11 B11 hr11 => ?_)
  obtain⟨v11,d11,h011,h111,hd11,rfl,hB⟩:=hr11
  cases hB
  refine .q 10 hG ⟨fun hc30 => ?_,fun hc30 => ?_⟩
  ·have hbn:(UInt64.ofInt b).toNat < 64:=by rcases hb with rfl|rfl|rfl;omega;decide;decide
   refine .q 4 hG ?_
   refine .p (.a2u (.u64 1 a8) (.t a8) (by omega) (by omega) (.p (.a7c (.t a8) (.u64 1 a8) (.p (.a78 (.t a8) (.t a8) ?_)))))
   refine .q 9 hG ⟨fun hc38 => ?_,fun hc38 => ?_⟩
   ·refine .q 4 hG ?_
    refine .h (.C8 hG (G0 _ _ _ (by first|assumption|exact y1 _) (by omega) (by omega)) .z (.cons (.t a8) (.cons (.t a8) .nil)) (by rintro _ _ ⟨_,_,_,_,_,_,rfl⟩;exact⟨_,rfl⟩) fun r41 B41 hr41 => ?_)
    obtain⟨v41,d41,h041,h141,hd41,rfl,hB⟩:=hr41
    cases hB
    have hvn:(UInt64.ofInt v41).toNat < 64:=by rw [ofInt_ofNat h041];simp;omega
    refine .q 1 hG ?_
    refine .p (.a2u (.u64 1 a8) (.t a8) (by omega) (by omega) ?_)
    refine .q 3 hG ?_
    refine .e1 a8 a8 ?_
    refine⟨_,.cons .z (.nil),?_⟩
    first|exact⟨_,a0u hb (by assumption) (by assumption),_,by assumption,rfl,rfl⟩|exact⟨_,a0v hb (by assumption) (by assumption),_,by assumption,rfl,rfl⟩|exact⟨_,a0w hb (by assumption) (by assumption),_,by assumption,rfl,rfl⟩
   ·refine .q 7 hG ?_
    refine .e1 a8 a8 ?_
    refine⟨_,.cons .z (.nil),?_⟩
    first|exact⟨_,a0u hb (by assumption) (by assumption),_,by assumption,rfl,rfl⟩|exact⟨_,a0v hb (by assumption) (by assumption),_,by assumption,rfl,rfl⟩|exact⟨_,a0w hb (by assumption) (by assumption),_,by assumption,rfl,rfl⟩
  ·refine .q 8 hG ⟨fun hc38 => ?_,fun hc38 => ?_⟩
   ·refine .q 4 hG ?_
    refine .h (.C8 hG (G0 _ _ _ (by first|assumption|exact y1 _) (by omega) (by omega)) .z (.cons (.t a8) (.cons (.t a8) .nil)) (by rintro _ _ ⟨_,_,_,_,_,_,rfl⟩;exact⟨_,rfl⟩) fun r41 B41 hr41 => ?_)
    obtain⟨v41,d41,h041,h141,hd41,rfl,hB⟩:=hr41
    cases hB
    have hvn:(UInt64.ofInt v41).toNat < 64:=by rw [ofInt_ofNat h041];simp;omega
    refine .q 1 hG ?_
    refine .p (.a2u (.u64 1 a8) (.t a8) (by omega) (by omega) ?_)
    refine .q 3 hG ?_
    refine .e1 a8 a8 ?_
    refine⟨_,.cons .z (.nil),?_⟩
    first|exact⟨_,a0u hb (by assumption) (by assumption),_,by assumption,rfl,rfl⟩|exact⟨_,a0v hb (by assumption) (by assumption),_,by assumption,rfl,rfl⟩|exact⟨_,a0w hb (by assumption) (by assumption),_,by assumption,rfl,rfl⟩
   ·refine .q 7 hG ?_
    refine .e1 a8 a8 ?_
    refine⟨_,.cons .z (.nil),?_⟩
    first|exact⟨_,a0u hb (by assumption) (by assumption),_,by assumption,rfl,rfl⟩|exact⟨_,a0v hb (by assumption) (by assumption),_,by assumption,rfl,rfl⟩|exact⟨_,a0w hb (by assumption) (by assumption),_,by assumption,rfl,rfl⟩
 ·refine .q 6 hG ⟨fun hc13 => ?_,fun hc13 => ?_⟩
  ·refine .q 2 hG ?_
   refine .h (.C8 hG (G0 _ _ _ (by first|assumption|exact y1 _) (by omega) (by omega)) .z (.cons (.t a8) (.cons (.i a8) .nil)) (by rintro _ _ ⟨_,_,_,_,_,_,rfl⟩;exact⟨_,rfl⟩) fun r16 B16 hr16 => ?_)
   obtain⟨v16,d16,h016,h116,hd16,rfl,hB⟩:=hr16
   cases hB
   refine .q 2 hG ?_
   refine .h (.C8 hG (G0 _ _ _ (by first|assumption|exact y1 _) (by omega) (by omega)) .z (.cons (.t a8) (.cons (.i a8) .nil)) (by rintro _ _ ⟨_,_,_,_,_,_,rfl⟩;exact⟨_,rfl⟩) fun r19 B19 hr19 => ?_)
   obtain⟨v19,d19,h019,h119,hd19,rfl,hB⟩:=hr19
   cases hB
   refine .q 1 hG ?_
   refine .p (.a2u (.t a8) (.u64 48 a8) (by omega) (by simp) (.p (.c1v (.t a8) (.t a8) ?_)))
   refine .q 9 hG ⟨fun hc30 => ?_,fun hc30 => ?_⟩
   ·have hbn:(UInt64.ofInt b).toNat < 64:=by rcases hb with rfl|rfl|rfl;omega;decide;decide
    refine .q 4 hG ?_
    refine .p (.a2u (.u64 1 a8) (.t a8) (by omega) (by omega) (.p (.a7c (.t a8) (.u64 1 a8) (.p (.a78 (.t a8) (.t a8) ?_)))))
    refine .q 9 hG ⟨fun hc38 => ?_,fun hc38 => ?_⟩
    ·refine .q 4 hG ?_
     refine .h (.C8 hG (G0 _ _ _ (by first|assumption|exact y1 _) (by omega) (by omega)) .z (.cons (.t a8) (.cons (.t a8) .nil)) (by rintro _ _ ⟨_,_,_,_,_,_,rfl⟩;exact⟨_,rfl⟩) fun r41 B41 hr41 => ?_)
     obtain⟨v41,d41,h041,h141,hd41,rfl,hB⟩:=hr41
     cases hB
     have hvn:(UInt64.ofInt v41).toNat < 64:=by rw [ofInt_ofNat h041];simp;omega
     refine .q 1 hG ?_
     refine .p (.a2u (.u64 1 a8) (.t a8) (by omega) (by omega) ?_)
     refine .q 3 hG ?_
     refine .e1 a8 a8 ?_
     refine⟨_,.cons .z (.nil),?_⟩
     first|exact⟨_,a0u hb (by assumption) (by assumption),_,by assumption,rfl,rfl⟩|exact⟨_,a0v hb (by assumption) (by assumption),_,by assumption,rfl,rfl⟩|exact⟨_,a0w hb (by assumption) (by assumption),_,by assumption,rfl,rfl⟩
    ·refine .q 7 hG ?_
     refine .e1 a8 a8 ?_
     refine⟨_,.cons .z (.nil),?_⟩
     first|exact⟨_,a0u hb (by assumption) (by assumption),_,by assumption,rfl,rfl⟩|exact⟨_,a0v hb (by assumption) (by assumption),_,by assumption,rfl,rfl⟩|exact⟨_,a0w hb (by assumption) (by assumption),_,by assumption,rfl,rfl⟩
   ·refine .q 8 hG ⟨fun hc38 => ?_,fun hc38 => ?_⟩
    ·refine .q 4 hG ?_
     refine .h (.C8 hG (G0 _ _ _ (by first|assumption|exact y1 _) (by omega) (by omega)) .z (.cons (.t a8) (.cons (.t a8) .nil)) (by rintro _ _ ⟨_,_,_,_,_,_,rfl⟩;exact⟨_,rfl⟩) fun r41 B41 hr41 => ?_)
     obtain⟨v41,d41,h041,h141,hd41,rfl,hB⟩:=hr41
     cases hB
     have hvn:(UInt64.ofInt v41).toNat < 64:=by rw [ofInt_ofNat h041];simp;omega
     refine .q 1 hG ?_
     refine .p (.a2u (.u64 1 a8) (.t a8) (by omega) (by omega) ?_)
     refine .q 3 hG ?_
     refine .e1 a8 a8 ?_
     refine⟨_,.cons .z (.nil),?_⟩
     first|exact⟨_,a0u hb (by assumption) (by assumption),_,by assumption,rfl,rfl⟩|exact⟨_,a0v hb (by assumption) (by assumption),_,by assumption,rfl,rfl⟩|exact⟨_,a0w hb (by assumption) (by assumption),_,by assumption,rfl,rfl⟩
    ·refine .q 7 hG ?_
     refine .e1 a8 a8 ?_
     refine⟨_,.cons .z (.nil),?_⟩
     first|exact⟨_,a0u hb (by assumption) (by assumption),_,by assumption,rfl,rfl⟩|exact⟨_,a0v hb (by assumption) (by assumption),_,by assumption,rfl,rfl⟩|exact⟨_,a0w hb (by assumption) (by assumption),_,by assumption,rfl,rfl⟩
  ·refine .q 6 hG ⟨fun hc23 => ?_,fun hc23 => ?_⟩
   ·refine .q 2 hG ?_
    refine .h (.C8 hG (G0 _ _ _ (by first|assumption|exact y1 _) (by omega) (by omega)) .z (.cons (.t a8) (.cons (.i a8) .nil)) (by rintro _ _ ⟨_,_,_,_,_,_,rfl⟩;exact⟨_,rfl⟩) fun r26 B26 hr26 => ?_)
    obtain⟨v26,d26,h026,h126,hd26,rfl,hB⟩:=hr26
    cases hB
    refine .q 1 hG ?_
    refine .p (.b7l (.t a8) ?_)
    refine .q 9 hG ⟨fun hc30 => ?_,fun hc30 => ?_⟩
    ·have hbn:(UInt64.ofInt b).toNat < 64:=by rcases hb with rfl|rfl|rfl;omega;decide;decide
     refine .q 4 hG ?_
     refine .p (.a2u (.u64 1 a8) (.t a8) (by omega) (by omega) (.p (.a7c (.t a8) (.u64 1 a8) (.p (.a78 (.t a8) (.t a8) ?_)))))
     refine .q 9 hG ⟨fun hc38 => ?_,fun hc38 => ?_⟩
     ·refine .q 4 hG ?_
      refine .h (.C8 hG (G0 _ _ _ (by first|assumption|exact y1 _) (by omega) (by omega)) .z (.cons (.t a8) (.cons (.t a8) .nil)) (by rintro _ _ ⟨_,_,_,_,_,_,rfl⟩;exact⟨_,rfl⟩) fun r41 B41 hr41 => ?_)
      obtain⟨v41,d41,h041,h141,hd41,rfl,hB⟩:=hr41
      cases hB
      have hvn:(UInt64.ofInt v41).toNat < 64:=by rw [ofInt_ofNat h041];simp;omega
      refine .q 1 hG ?_
      refine .p (.a2u (.u64 1 a8) (.t a8) (by omega) (by omega) ?_)
      refine .q 3 hG ?_
      refine .e1 a8 a8 ?_
      refine⟨_,.cons .z (.nil),?_⟩
      first|exact⟨_,a0u hb (by assumption) (by assumption),_,by assumption,rfl,rfl⟩|exact⟨_,a0v hb (by assumption) (by assumption),_,by assumption,rfl,rfl⟩|exact⟨_,a0w hb (by assumption) (by assumption),_,by assumption,rfl,rfl⟩
     ·refine .q 7 hG ?_
      refine .e1 a8 a8 ?_
      refine⟨_,.cons .z (.nil),?_⟩
      first|exact⟨_,a0u hb (by assumption) (by assumption),_,by assumption,rfl,rfl⟩|exact⟨_,a0v hb (by assumption) (by assumption),_,by assumption,rfl,rfl⟩|exact⟨_,a0w hb (by assumption) (by assumption),_,by assumption,rfl,rfl⟩
    ·refine .q 8 hG ⟨fun hc38 => ?_,fun hc38 => ?_⟩
     ·refine .q 4 hG ?_
      refine .h (.C8 hG (G0 _ _ _ (by first|assumption|exact y1 _) (by omega) (by omega)) .z (.cons (.t a8) (.cons (.t a8) .nil)) (by rintro _ _ ⟨_,_,_,_,_,_,rfl⟩;exact⟨_,rfl⟩) fun r41 B41 hr41 => ?_)
      obtain⟨v41,d41,h041,h141,hd41,rfl,hB⟩:=hr41
      cases hB
      have hvn:(UInt64.ofInt v41).toNat < 64:=by rw [ofInt_ofNat h041];simp;omega
      refine .q 1 hG ?_
      refine .p (.a2u (.u64 1 a8) (.t a8) (by omega) (by omega) ?_)
      refine .q 3 hG ?_
      refine .e1 a8 a8 ?_
      refine⟨_,.cons .z (.nil),?_⟩
      first|exact⟨_,a0u hb (by assumption) (by assumption),_,by assumption,rfl,rfl⟩|exact⟨_,a0v hb (by assumption) (by assumption),_,by assumption,rfl,rfl⟩|exact⟨_,a0w hb (by assumption) (by assumption),_,by assumption,rfl,rfl⟩
     ·refine .q 7 hG ?_
      refine .e1 a8 a8 ?_
      refine⟨_,.cons .z (.nil),?_⟩
      first|exact⟨_,a0u hb (by assumption) (by assumption),_,by assumption,rfl,rfl⟩|exact⟨_,a0v hb (by assumption) (by assumption),_,by assumption,rfl,rfl⟩|exact⟨_,a0w hb (by assumption) (by assumption),_,by assumption,rfl,rfl⟩
   ·refine .q 8 hG ⟨fun hc30 => ?_,fun hc30 => ?_⟩
    ·have hbn:(UInt64.ofInt b).toNat < 64:=by rcases hb with rfl|rfl|rfl;omega;decide;decide
     refine .q 4 hG ?_
     refine .p (.a2u (.u64 1 a8) (.t a8) (by omega) (by omega) (.p (.a7c (.t a8) (.u64 1 a8) (.p (.a78 (.t a8) (.t a8) ?_)))))
     refine .q 9 hG ⟨fun hc38 => ?_,fun hc38 => ?_⟩
     ·refine .q 4 hG ?_
      refine .h (.C8 hG (G0 _ _ _ (by first|assumption|exact y1 _) (by omega) (by omega)) .z (.cons (.t a8) (.cons (.t a8) .nil)) (by rintro _ _ ⟨_,_,_,_,_,_,rfl⟩;exact⟨_,rfl⟩) fun r41 B41 hr41 => ?_)
      obtain⟨v41,d41,h041,h141,hd41,rfl,hB⟩:=hr41
      cases hB
      have hvn:(UInt64.ofInt v41).toNat < 64:=by rw [ofInt_ofNat h041];simp;omega
      refine .q 1 hG ?_
      refine .p (.a2u (.u64 1 a8) (.t a8) (by omega) (by omega) ?_)
      refine .q 3 hG ?_
      refine .e1 a8 a8 ?_
      refine⟨_,.cons .z (.nil),?_⟩
      first|exact⟨_,a0u hb (by assumption) (by assumption),_,by assumption,rfl,rfl⟩|exact⟨_,a0v hb (by assumption) (by assumption),_,by assumption,rfl,rfl⟩|exact⟨_,a0w hb (by assumption) (by assumption),_,by assumption,rfl,rfl⟩
     ·refine .q 7 hG ?_
      refine .e1 a8 a8 ?_
      refine⟨_,.cons .z (.nil),?_⟩
      first|exact⟨_,a0u hb (by assumption) (by assumption),_,by assumption,rfl,rfl⟩|exact⟨_,a0v hb (by assumption) (by assumption),_,by assumption,rfl,rfl⟩|exact⟨_,a0w hb (by assumption) (by assumption),_,by assumption,rfl,rfl⟩
    ·refine .q 8 hG ⟨fun hc38 => ?_,fun hc38 => ?_⟩
     ·refine .q 4 hG ?_
      refine .h (.C8 hG (G0 _ _ _ (by first|assumption|exact y1 _) (by omega) (by omega)) .z (.cons (.t a8) (.cons (.t a8) .nil)) (by rintro _ _ ⟨_,_,_,_,_,_,rfl⟩;exact⟨_,rfl⟩) fun r41 B41 hr41 => ?_)
      obtain⟨v41,d41,h041,h141,hd41,rfl,hB⟩:=hr41
      cases hB
      have hvn:(UInt64.ofInt v41).toNat < 64:=by rw [ofInt_ofNat h041];simp;omega
      refine .q 1 hG ?_
      refine .p (.a2u (.u64 1 a8) (.t a8) (by omega) (by omega) ?_)
      refine .q 3 hG ?_
      refine .e1 a8 a8 ?_
      refine⟨_,.cons .z (.nil),?_⟩
      first|exact⟨_,a0u hb (by assumption) (by assumption),_,by assumption,rfl,rfl⟩|exact⟨_,a0v hb (by assumption) (by assumption),_,by assumption,rfl,rfl⟩|exact⟨_,a0w hb (by assumption) (by assumption),_,by assumption,rfl,rfl⟩
     ·refine .q 7 hG ?_
      refine .e1 a8 a8 ?_
      refine⟨_,.cons .z (.nil),?_⟩
      first|exact⟨_,a0u hb (by assumption) (by assumption),_,by assumption,rfl,rfl⟩|exact⟨_,a0v hb (by assumption) (by assumption),_,by assumption,rfl,rfl⟩|exact⟨_,a0w hb (by assumption) (by assumption),_,by assumption,rfl,rfl⟩
theorem a1O (w:Value) (d:m6) (hd:G9 d):F5 gl prog 54 [dk w] [.ob w d] (fun r Hs=>∃ v:Int,0≤v∧v≤67108864∧∃ d',G9 d'∧r = .v v∧Hs = [.ob w d']):=by
 refine F5.Q6 func54 rfl (by kernel_rfl) 25 rfl rfl _ rfl _ rfl fun C hC hG => ?_
 refine .q 8 hG ?_
 refine .h (.C8 hG (G0 _ _ _ (by first|assumption|exact y1 _) (by omega) (by omega)) .z (.cons (.t a8) (.cons (.i a8) .nil)) (by rintro _ _ ⟨_,_,_,_,_,_,rfl⟩;exact⟨_,rfl⟩) fun r4 B4 hr4 => ?_)
 obtain⟨v4,d4,h04,h14,hd4,rfl,hB⟩:=hr4
 cases hB
 refine .q 8 hG ⟨fun hc5 => ?_,fun hc5 => ?_⟩
 ·refine .q 3 hG ?_
  refine .h (.C8 hG (G0 _ _ _ (by first|assumption|exact y1 _) (by omega) (by omega)) .z (.cons (.t a8) (.cons (.i a8) .nil)) (by rintro _ _ ⟨_,_,_,_,_,_,rfl⟩;exact⟨_,rfl⟩) fun r8 B8 hr8 => ?_)
  obtain⟨v8,d8,h08,h18,hd8,rfl,hB⟩:=hr8
  cases hB
  refine .q 3 hG ?_
  refine .e1 a8 a8 ?_
  refine⟨_,.cons .z (.nil),?_⟩
  exact⟨_,by omega,by omega,_,by assumption,rfl,rfl⟩
 ·refine .q 6 hG ⟨fun hc9 => ?_,fun hc9 => ?_⟩
  ·refine .q 3 hG ?_
   refine .h (.C8 hG (G0 _ _ _ (by first|assumption|exact y1 _) (by omega) (by omega)) .z (.cons (.t a8) (.cons (.i a8) .nil)) (by rintro _ _ ⟨_,_,_,_,_,_,rfl⟩;exact⟨_,rfl⟩) fun r12 B12 hr12 => ?_)
   obtain⟨v12,d12,h012,h112,hd12,rfl,hB⟩:=hr12
   cases hB
   refine .p (.mul (.t a8) (.i a8) (by omega) (by omega) ?_)
   refine .q 1 hG ?_
   refine .h (.C8 hG (G0 _ _ _ (by first|assumption|exact y1 _) (by omega) (by omega)) .z (.cons (.t a8) (.cons (.i a8) .nil)) (by rintro _ _ ⟨_,_,_,_,_,_,rfl⟩;exact⟨_,rfl⟩) fun r15 B15 hr15 => ?_)
   obtain⟨v15,d15,h015,h115,hd15,rfl,hB⟩:=hr15
   cases hB
   refine .ad (by omega) (by omega) (.p (.b0h (.t a8) (.i a8) ?_))
   refine .q 3 hG ?_
   refine .e1 a8 a8 ?_
   refine⟨_,.cons .z (.nil),?_⟩
   exact⟨_,by omega,by omega,_,by assumption,rfl,rfl⟩
  ·refine .q 6 hG ⟨fun hc18 => ?_,fun hc18 => ?_⟩
   ·refine .q 3 hG ?_
    refine .h (.C8 hG (G0 _ _ _ (by first|assumption|exact y1 _) (by omega) (by omega)) .z (.cons (.t a8) (.cons (.i a8) .nil)) (by rintro _ _ ⟨_,_,_,_,_,_,rfl⟩;exact⟨_,rfl⟩) fun r21 B21 hr21 => ?_)
    obtain⟨v21,d21,h021,h121,hd21,rfl,hB⟩:=hr21
    cases hB
    refine .sb (by omega) (by omega) ?_
    refine .q 3 hG ?_
    refine .e1 a8 a8 ?_
    refine⟨_,.cons .z (.nil),?_⟩
    exact⟨_,by omega,by omega,_,by assumption,rfl,rfl⟩
   ·refine .q 4 hG ?_
    refine .h (.C8 hG (G0 _ _ _ (by first|assumption|exact y1 _) (by omega) (by omega)) .z (.cons (.t a8) (.cons (.i a8) .nil)) (by rintro _ _ ⟨_,_,_,_,_,_,rfl⟩;exact⟨_,rfl⟩) fun r24 B24 hr24 => ?_)
    obtain⟨v24,d24,h024,h124,hd24,rfl,hB⟩:=hr24
    cases hB
    refine .q 3 hG ?_
    refine .e1 a8 a8 ?_
    refine⟨_,.cons .z (.nil),?_⟩
    exact⟨_,by omega,by omega,_,by assumption,rfl,rfl⟩
theorem b4o (w:Value) (d:m6) (hd:G9 d):F5 gl prog 55 [dk w] [.ob w d] (fun r Hs=>∃ s:Str,T8 s=true∧∃ d',G9 d'∧r = .v s∧Hs = [.ob w d']):=by
 have hn:=W4 (d:=d) (n:=8) (by decide)
 refine F5.jn func55 (by kernel_rfl) 8 rfl fun C hC hG => ?_
 refine .q 2 hG ?_
 refine .p (.assign (.s [] (by decide) (by decide)) ?_)
 refine .q 3 hG ?_
 refine .h (.buildSlice (α:=Str) ty9 underlying71 (.cons (.s [97] (by decide) (by decide)) (.cons (.s [98] (by decide) (by decide)) (.cons (.s [97,110,110] (by decide) (by decide)) (.cons (.s [98,111,98] (by decide) (by decide)) (.cons (.s [99,105,100] (by decide) (by decide)) (.cons (.s [122,111,101] (by decide) (by decide)) (.cons (.s [97,97] (by decide) (by decide)) (.cons (.s [97,98,99,100,101,102,103,104,105,106,107,108,109,110,111,112] (by decide) (by decide)) .nil)))))))) a8 (by decide) fun b3 => ?_)
 refine .q 1 hG ?_
 refine .h (.C8 hG (a3i _ _ _ hd (by omega) (by omega)) .z1 (.cons (.t a8) (.cons (.i a8) .nil)) (by rintro _ _ ⟨_,rfl⟩;exact⟨_,rfl⟩) fun r5 B5 hr5 => ?_)
 obtain⟨rfl,hB⟩:=hr5
 cases hB
 refine .p (.W7 ty9 underlying71 a8 .z (.t a8) (by omega) (by simp<;>omega) (.p (.b3H ty9 (.t a8) .z (by simp<;>omega) ?_)))
 refine .q 2 hG ?_
 refine .drop ?_
 refine .q 1 hG ?_
 refine .e1 a8 a8 ?_
 refine⟨_,?_,_,R7 hd,a8,a8⟩
 refine(show ∀ s∈_,T8 s=true from ?_) _ (List.getElem_mem _)
 decide
theorem E5 {k:Int} {m:UInt64} (hk:k=1∨k=2∨k=3) (h:a1j m (G5 k)=true):B0 ⟨k,m,0,0,⟨[]⟩,0⟩=true:=by
 unfold B0;rw [if_pos hk];dsimp only;rw [h];simp
theorem H7 {a b:Int} (h0:0≤a) (h1:a≤b) (h2:b≤67108864):B0 ⟨4,0,a,b,⟨[]⟩,0⟩=true:=by
 unfold B0;simp [h0,h1,h2]
theorem K4 {a b:Int} (h0:0≤a) (h1:a < 1440) (h2:0≤b) (h3:b < 1440):B0 ⟨5,0,a,b,⟨[]⟩,0⟩=true:=by
 unfold B0;simp [h0,h1,h2,h3]
theorem Q9 {s:Str} (h:T8 s=true):B0 ⟨6,0,0,0,s,0⟩=true:=by unfold B0;simp [h]
theorem L8 {n:Int} (h0:0≤n) (h1:n≤1000000):B0 ⟨7,0,0,0,⟨[]⟩,n⟩=true:=by unfold B0;simp [h0,h1]
theorem S0 (w:Value) (d:m6) (b8z:Bool) (hd:G9 d):F5 gl prog 34 [dk w,.v b8z] [.ob w d] (fun r Hs=>∃ p:Pred,B0 p=true∧(b8z=false→p.Kind≠7)∧∃ d',G9 d'∧r = .v p∧Hs = [.ob w d']):=by
 refine F5.Q6 func34 rfl (by kernel_rfl) 81 rfl rfl _ rfl _ rfl fun C hC hG => ?_
 refine .q 3 hG fun b4 => ?_
 refine .q 4 hG ?_
 refine .h (.C8 hG (a6r _ _ _ _ (by first|assumption|exact y1 _) (by omega) (by omega) (by omega)) .z1 (.cons (.t a8) (.cons (.i a8) (.cons (.i a8) .nil))) (by rintro _ _ ⟨_,_,_,_,_,_,rfl⟩;exact⟨_,rfl⟩) fun r9 B9 hr9 => ?_)
 obtain⟨v9,d9,h09,h19,hd9,rfl,hB⟩:=hr9
 cases hB
 refine .p (.bS1 j3.l0 a8 T1 a7K (fun c0=>(⟨c0,0,0,0,⟨[]⟩,0⟩:j3)) (fun _=>a8) a8 a8 (.t a8) ?_)
 refine .q 1 hG fun b5 => ?_
 refine .q 13 hG ?_
 refine .cond (.t a8) (fun hc17 => ?_) (fun hc17 => ?_)
 ·refine .q 16 hG ?_
  refine .M3 (.t rfl) (fun hc21=>(by exfalso;exact absurd hc21 (show ¬(4:Int)=1 by decide))) (fun hc21 => ?_)
  refine .q 5 hG ?_
  refine .M3 (.t rfl) (fun hc26=>(by exfalso;exact absurd hc26 (show ¬(4:Int)=2 by decide))) (fun hc26 => ?_)
  refine .q 5 hG ?_
  refine .M3 (.t rfl) (fun hc31=>(by exfalso;exact absurd hc31 (show ¬(4:Int)=3 by decide))) (fun hc31 => ?_)
  refine .q 5 hG ?_
  refine .M3 (.t a8) (fun hc36 => ?_) (fun hc36=>(by exfalso;exact hc36 rfl))
  refine .q 3 hG ?_
  refine .h (.C8 hG (a1O _ _ (by assumption)) .z2 (.cons (.t a8) .nil) (by rintro _ _ ⟨_,_,_,_,_,_,rfl⟩;exact⟨_,rfl⟩) fun r39 B39 hr39 => ?_)
  obtain⟨v39,h039,h139,d39,hd39,rfl,hB⟩:=hr39
  cases hB
  refine .q 1 hG ?_
  refine .h (.C8 hG (a1O _ _ (by assumption)) .z2 (.cons (.t a8) .nil) (by rintro _ _ ⟨_,_,_,_,_,_,rfl⟩;exact⟨_,rfl⟩) fun r41 B41 hr41 => ?_)
  obtain⟨v41,h041,h141,d41,hd41,rfl,hB⟩:=hr41
  cases hB
  refine .q 6 hG ?_
  refine .p (.b0h (.t a8) (.t a8) ?_)
  refine .q 2 hG ?_
  refine .p (.b6a (.t a8) (.t a8) ?_)
  refine .q 11 hG ?_
  refine⟨_,.r1 a8 (.cell T1 a8 .z1),?_⟩
  refine⟨_,.cons .z2 (.nil),?_⟩
  first|(exfalso;(try dsimp only at *);omega)|exact⟨⟨4,0,min v39 v41,max v39 v41,⟨[]⟩,0⟩,H7 (by omega) (by omega) (by omega),fun _=>(show(4:Int)≠7 by decide),_,by assumption,rfl,rfl⟩|(obtain rfl:v9=1:=(by assumption);exact⟨_,E5 (Or.inl rfl) (by assumption),fun _=>(show(1:Int)≠7 by decide),_,by assumption,rfl,rfl⟩)|(obtain rfl:v9=2:=(by assumption);exact⟨_,E5 (Or.inr (Or.inl rfl)) (by assumption),fun _=>(show(2:Int)≠7 by decide),_,by assumption,rfl,rfl⟩)|(obtain rfl:v9=3:=(by assumption);exact⟨_,E5 (Or.inr (Or.inr rfl)) (by assumption),fun _=>(show(3:Int)≠7 by decide),_,by assumption,rfl,rfl⟩)|(obtain rfl:v9=4:=(by assumption);exact⟨⟨4,0,min v39 v41,max v39 v41,⟨[]⟩,0⟩,H7 (by omega) (by omega) (by omega),fun _=>(show(4:Int)≠7 by decide),_,by assumption,rfl,rfl⟩)|(obtain rfl:v9=5:=(by assumption);exact⟨⟨5,0,v53,v55,⟨[]⟩,0⟩,K4 (by omega) (by omega) (by omega) (by omega),fun _=>(show(5:Int)≠7 by decide),_,by assumption,rfl,rfl⟩)|(obtain rfl:v9=5:=(by assumption);exact⟨⟨5,0,v53,(v53+v64+1440 - 1) % 1440,⟨[]⟩,0⟩,K4 (by omega) (by omega) (by omega) (by omega),fun _=>(show(5:Int)≠7 by decide),_,by assumption,rfl,rfl⟩)|(obtain rfl:v9=6:=(by assumption);exact⟨_,Q9 (by assumption),fun _=>(show(6:Int)≠7 by decide),_,by assumption,rfl,rfl⟩)|(obtain rfl:v9=7:=(by assumption);exact⟨⟨7,0,0,0,⟨[]⟩,v78⟩,L8 (by omega) (by omega),fun h=>(by subst h;simp at hc17),_,by assumption,rfl,rfl⟩)
 ·refine .q 14 hG ⟨fun hc21 => ?_,fun hc21 => ?_⟩
  ·refine .q 2 hG ?_
   refine .h (.C8 hG (a4M _ _ _ (by assumption) (by decide)) .z2 (.cons (.t a8) (.cons (.i a8) .nil)) (by rintro _ _ ⟨_,_,_,_,_,rfl⟩;exact⟨_,rfl⟩) fun r24 B24 hr24 => ?_)
   obtain⟨m24,hm24,d24,hd24,rfl,hB⟩:=hr24
   cases hB
   refine .q 9 hG ?_
   refine⟨_,.r1 a8 (.cell T1 a8 .z1),?_⟩
   refine⟨_,.cons .z2 (.nil),?_⟩
   first|(exfalso;(try dsimp only at *);omega)|exact⟨⟨4,0,min v39 v41,max v39 v41,⟨[]⟩,0⟩,H7 (by omega) (by omega) (by omega),fun _=>(show(4:Int)≠7 by decide),_,by assumption,rfl,rfl⟩|(obtain rfl:v9=1:=(by assumption);exact⟨_,E5 (Or.inl rfl) (by assumption),fun _=>(show(1:Int)≠7 by decide),_,by assumption,rfl,rfl⟩)|(obtain rfl:v9=2:=(by assumption);exact⟨_,E5 (Or.inr (Or.inl rfl)) (by assumption),fun _=>(show(2:Int)≠7 by decide),_,by assumption,rfl,rfl⟩)|(obtain rfl:v9=3:=(by assumption);exact⟨_,E5 (Or.inr (Or.inr rfl)) (by assumption),fun _=>(show(3:Int)≠7 by decide),_,by assumption,rfl,rfl⟩)|(obtain rfl:v9=4:=(by assumption);exact⟨⟨4,0,min v39 v41,max v39 v41,⟨[]⟩,0⟩,H7 (by omega) (by omega) (by omega),fun _=>(show(4:Int)≠7 by decide),_,by assumption,rfl,rfl⟩)|(obtain rfl:v9=5:=(by assumption);exact⟨⟨5,0,v53,v55,⟨[]⟩,0⟩,K4 (by omega) (by omega) (by omega) (by omega),fun _=>(show(5:Int)≠7 by decide),_,by assumption,rfl,rfl⟩)|(obtain rfl:v9=5:=(by assumption);exact⟨⟨5,0,v53,(v53+v64+1440 - 1) % 1440,⟨[]⟩,0⟩,K4 (by omega) (by omega) (by omega) (by omega),fun _=>(show(5:Int)≠7 by decide),_,by assumption,rfl,rfl⟩)|(obtain rfl:v9=6:=(by assumption);exact⟨_,Q9 (by assumption),fun _=>(show(6:Int)≠7 by decide),_,by assumption,rfl,rfl⟩)|(obtain rfl:v9=7:=(by assumption);exact⟨⟨7,0,0,0,⟨[]⟩,v78⟩,L8 (by omega) (by omega),fun h=>(by subst h;simp at hc17),_,by assumption,rfl,rfl⟩)
  ·refine .q 6 hG ⟨fun hc26 => ?_,fun hc26 => ?_⟩
   ·refine .q 2 hG ?_
    refine .h (.C8 hG (a4M _ _ _ (by assumption) (by decide)) .z2 (.cons (.t a8) (.cons (.i a8) .nil)) (by rintro _ _ ⟨_,_,_,_,_,rfl⟩;exact⟨_,rfl⟩) fun r29 B29 hr29 => ?_)
    obtain⟨m29,hm29,d29,hd29,rfl,hB⟩:=hr29
    cases hB
    refine .q 9 hG ?_
    refine⟨_,.r1 a8 (.cell T1 a8 .z1),?_⟩
    refine⟨_,.cons .z2 (.nil),?_⟩
    first|(exfalso;(try dsimp only at *);omega)|exact⟨⟨4,0,min v39 v41,max v39 v41,⟨[]⟩,0⟩,H7 (by omega) (by omega) (by omega),fun _=>(show(4:Int)≠7 by decide),_,by assumption,rfl,rfl⟩|(obtain rfl:v9=1:=(by assumption);exact⟨_,E5 (Or.inl rfl) (by assumption),fun _=>(show(1:Int)≠7 by decide),_,by assumption,rfl,rfl⟩)|(obtain rfl:v9=2:=(by assumption);exact⟨_,E5 (Or.inr (Or.inl rfl)) (by assumption),fun _=>(show(2:Int)≠7 by decide),_,by assumption,rfl,rfl⟩)|(obtain rfl:v9=3:=(by assumption);exact⟨_,E5 (Or.inr (Or.inr rfl)) (by assumption),fun _=>(show(3:Int)≠7 by decide),_,by assumption,rfl,rfl⟩)|(obtain rfl:v9=4:=(by assumption);exact⟨⟨4,0,min v39 v41,max v39 v41,⟨[]⟩,0⟩,H7 (by omega) (by omega) (by omega),fun _=>(show(4:Int)≠7 by decide),_,by assumption,rfl,rfl⟩)|(obtain rfl:v9=5:=(by assumption);exact⟨⟨5,0,v53,v55,⟨[]⟩,0⟩,K4 (by omega) (by omega) (by omega) (by omega),fun _=>(show(5:Int)≠7 by decide),_,by assumption,rfl,rfl⟩)|(obtain rfl:v9=5:=(by assumption);exact⟨⟨5,0,v53,(v53+v64+1440 - 1) % 1440,⟨[]⟩,0⟩,K4 (by omega) (by omega) (by omega) (by omega),fun _=>(show(5:Int)≠7 by decide),_,by assumption,rfl,rfl⟩)|(obtain rfl:v9=6:=(by assumption);exact⟨_,Q9 (by assumption),fun _=>(show(6:Int)≠7 by decide),_,by assumption,rfl,rfl⟩)|(obtain rfl:v9=7:=(by assumption);exact⟨⟨7,0,0,0,⟨[]⟩,v78⟩,L8 (by omega) (by omega),fun h=>(by subst h;simp at hc17),_,by assumption,rfl,rfl⟩)
   ·refine .q 6 hG ⟨fun hc31 => ?_,fun hc31 => ?_⟩
    ·refine .q 2 hG ?_
     refine .h (.C8 hG (a4M _ _ _ (by assumption) (by decide)) .z2 (.cons (.t a8) (.cons (.i a8) .nil)) (by rintro _ _ ⟨_,_,_,_,_,rfl⟩;exact⟨_,rfl⟩) fun r34 B34 hr34 => ?_)
     obtain⟨m34,hm34,d34,hd34,rfl,hB⟩:=hr34
     cases hB
     refine .q 9 hG ?_
     refine⟨_,.r1 a8 (.cell T1 a8 .z1),?_⟩
     refine⟨_,.cons .z2 (.nil),?_⟩
     first|(exfalso;(try dsimp only at *);omega)|exact⟨⟨4,0,min v39 v41,max v39 v41,⟨[]⟩,0⟩,H7 (by omega) (by omega) (by omega),fun _=>(show(4:Int)≠7 by decide),_,by assumption,rfl,rfl⟩|(obtain rfl:v9=1:=(by assumption);exact⟨_,E5 (Or.inl rfl) (by assumption),fun _=>(show(1:Int)≠7 by decide),_,by assumption,rfl,rfl⟩)|(obtain rfl:v9=2:=(by assumption);exact⟨_,E5 (Or.inr (Or.inl rfl)) (by assumption),fun _=>(show(2:Int)≠7 by decide),_,by assumption,rfl,rfl⟩)|(obtain rfl:v9=3:=(by assumption);exact⟨_,E5 (Or.inr (Or.inr rfl)) (by assumption),fun _=>(show(3:Int)≠7 by decide),_,by assumption,rfl,rfl⟩)|(obtain rfl:v9=4:=(by assumption);exact⟨⟨4,0,min v39 v41,max v39 v41,⟨[]⟩,0⟩,H7 (by omega) (by omega) (by omega),fun _=>(show(4:Int)≠7 by decide),_,by assumption,rfl,rfl⟩)|(obtain rfl:v9=5:=(by assumption);exact⟨⟨5,0,v53,v55,⟨[]⟩,0⟩,K4 (by omega) (by omega) (by omega) (by omega),fun _=>(show(5:Int)≠7 by decide),_,by assumption,rfl,rfl⟩)|(obtain rfl:v9=5:=(by assumption);exact⟨⟨5,0,v53,(v53+v64+1440 - 1) % 1440,⟨[]⟩,0⟩,K4 (by omega) (by omega) (by omega) (by omega),fun _=>(show(5:Int)≠7 by decide),_,by assumption,rfl,rfl⟩)|(obtain rfl:v9=6:=(by assumption);exact⟨_,Q9 (by assumption),fun _=>(show(6:Int)≠7 by decide),_,by assumption,rfl,rfl⟩)|(obtain rfl:v9=7:=(by assumption);exact⟨⟨7,0,0,0,⟨[]⟩,v78⟩,L8 (by omega) (by omega),fun h=>(by subst h;simp at hc17),_,by assumption,rfl,rfl⟩)
    ·refine .q 6 hG ⟨fun hc36 => ?_,fun hc36 => ?_⟩
     ·refine .q 3 hG ?_
      refine .h (.C8 hG (a1O _ _ (by assumption)) .z2 (.cons (.t a8) .nil) (by rintro _ _ ⟨_,_,_,_,_,_,rfl⟩;exact⟨_,rfl⟩) fun r39 B39 hr39 => ?_)
      obtain⟨v39,h039,h139,d39,hd39,rfl,hB⟩:=hr39
      cases hB
      refine .q 1 hG ?_
      refine .h (.C8 hG (a1O _ _ (by assumption)) .z2 (.cons (.t a8) .nil) (by rintro _ _ ⟨_,_,_,_,_,_,rfl⟩;exact⟨_,rfl⟩) fun r41 B41 hr41 => ?_)
      obtain⟨v41,h041,h141,d41,hd41,rfl,hB⟩:=hr41
      cases hB
      refine .q 6 hG ?_
      refine .p (.b0h (.t a8) (.t a8) ?_)
      refine .q 2 hG ?_
      refine .p (.b6a (.t a8) (.t a8) ?_)
      refine .q 11 hG ?_
      refine⟨_,.r1 a8 (.cell T1 a8 .z1),?_⟩
      refine⟨_,.cons .z2 (.nil),?_⟩
      first|(exfalso;(try dsimp only at *);omega)|exact⟨⟨4,0,min v39 v41,max v39 v41,⟨[]⟩,0⟩,H7 (by omega) (by omega) (by omega),fun _=>(show(4:Int)≠7 by decide),_,by assumption,rfl,rfl⟩|(obtain rfl:v9=1:=(by assumption);exact⟨_,E5 (Or.inl rfl) (by assumption),fun _=>(show(1:Int)≠7 by decide),_,by assumption,rfl,rfl⟩)|(obtain rfl:v9=2:=(by assumption);exact⟨_,E5 (Or.inr (Or.inl rfl)) (by assumption),fun _=>(show(2:Int)≠7 by decide),_,by assumption,rfl,rfl⟩)|(obtain rfl:v9=3:=(by assumption);exact⟨_,E5 (Or.inr (Or.inr rfl)) (by assumption),fun _=>(show(3:Int)≠7 by decide),_,by assumption,rfl,rfl⟩)|(obtain rfl:v9=4:=(by assumption);exact⟨⟨4,0,min v39 v41,max v39 v41,⟨[]⟩,0⟩,H7 (by omega) (by omega) (by omega),fun _=>(show(4:Int)≠7 by decide),_,by assumption,rfl,rfl⟩)|(obtain rfl:v9=5:=(by assumption);exact⟨⟨5,0,v53,v55,⟨[]⟩,0⟩,K4 (by omega) (by omega) (by omega) (by omega),fun _=>(show(5:Int)≠7 by decide),_,by assumption,rfl,rfl⟩)|(obtain rfl:v9=5:=(by assumption);exact⟨⟨5,0,v53,(v53+v64+1440 - 1) % 1440,⟨[]⟩,0⟩,K4 (by omega) (by omega) (by omega) (by omega),fun _=>(show(5:Int)≠7 by decide),_,by assumption,rfl,rfl⟩)|(obtain rfl:v9=6:=(by assumption);exact⟨_,Q9 (by assumption),fun _=>(show(6:Int)≠7 by decide),_,by assumption,rfl,rfl⟩)|(obtain rfl:v9=7:=(by assumption);exact⟨⟨7,0,0,0,⟨[]⟩,v78⟩,L8 (by omega) (by omega),fun h=>(by subst h;simp at hc17),_,by assumption,rfl,rfl⟩)
     ·refine .q 6 hG ⟨fun hc50 => ?_,fun hc50 => ?_⟩
      ·refine .q 3 hG ?_
       refine .h (.C8 hG (G0 _ _ _ (by first|assumption|exact y1 _) (by omega) (by omega)) .z2 (.cons (.t a8) (.cons (.i a8) .nil)) (by rintro _ _ ⟨_,_,_,_,_,_,rfl⟩;exact⟨_,rfl⟩) fun r53 B53 hr53 => ?_)
       obtain⟨v53,d53,h053,h153,hd53,rfl,hB⟩:=hr53
       cases hB
       refine .q 1 hG ?_
       refine .h (.C8 hG (G0 _ _ _ (by first|assumption|exact y1 _) (by omega) (by omega)) .z2 (.cons (.t a8) (.cons (.i a8) .nil)) (by rintro _ _ ⟨_,_,_,_,_,_,rfl⟩;exact⟨_,rfl⟩) fun r55 B55 hr55 => ?_)
       obtain⟨v55,d55,h055,h155,hd55,rfl,hB⟩:=hr55
       cases hB
       refine .q 8 hG ?_
       refine .h (.C8 hG (G0 _ _ _ (by first|assumption|exact y1 _) (by omega) (by omega)) .z2 (.cons (.t a8) (.cons (.i a8) .nil)) (by rintro _ _ ⟨_,_,_,_,_,_,rfl⟩;exact⟨_,rfl⟩) fun r59 B59 hr59 => ?_)
       obtain⟨v59,d59,h059,h159,hd59,rfl,hB⟩:=hr59
       cases hB
       refine .q 3 hG ⟨fun hc60 => ?_,fun hc60 => ?_⟩
       ·refine .D7 [j1,j1,j0] (by kernel_rfl) 9 [[],[(61,0)],[],[(63,2)],[(62,1),(64,3)],[(65,4)],[(66,5)],[(67,6)],[]] [3,4,5,6,7] a8 (by kernel_rfl) a8 (by kernel_rfl) (by decide) ?_
        refine⟨_,fun H=>j6.B1 j3.l2 M5 a8 (.t a8) a8,?_⟩
        refine⟨_,fun H=>j6.ldF (fun x=>x.R8) R6 (.t a8) (u7.app .z) (fun _=>a8) a8,?_⟩
        refine⟨_,fun H=>j6.move (.t a8) a8,?_⟩
        refine .inl (.inl (.inl (.inl (.inl ?_))))
        refine⟨_,fun H=>j6.B1 j3.l3 M6 a8 (.t a8) a8,?_⟩
        refine⟨⟨([],j2 [c8,c8,_]),a8⟩,?_⟩
        refine A6.C8 hG (G0 _ _ _ (by first|assumption|exact y1 _) (by omega) (by omega)) .z2 (.cons (.t rfl) (.cons (.i rfl) .nil)) (by rintro _ _ ⟨_,_,_,_,_,_,rfl⟩;exact⟨_,rfl⟩) fun r64 B64 hr64 => ?_
        obtain⟨v64,d64,h064,h164,hd64,rfl,hB⟩:=hr64
        cases hB
        refine⟨⟨([],j2 [c8,c8,_]),a8⟩,?_⟩
        refine A6.ofP (j6.add (.t rfl) (.t rfl) (by simp<;>omega) (by simp<;>omega) ?_)
        refine⟨⟨([],j2 [c8,c8,_]),a8⟩,?_⟩
        refine A6.ofP (j6.add (.t rfl) (.i rfl) (by simp<;>omega) (by simp<;>omega) ?_)
        refine⟨⟨([],j2 [c8,c8,_]),a8⟩,?_⟩
        refine A6.ofP (j6.sub (.t rfl) (.i rfl) (by simp<;>omega) (by simp<;>omega) ?_)
        refine⟨⟨([],j2 [c8,c8,_]),a8⟩,?_⟩
        refine A6.ofP (j6.rem (.t rfl) (.i rfl) (by simp<;>omega) (by omega) ?_)
        refine⟨⟨([],j2 [c8,c8,_]),a8⟩,?_⟩
        show D5 _ _ _ _ _ [_] ((69,_)::(68,_)::(67,_)::(66,_)::(65,_)::(64,_)::(63,_)::(62,_)::(61,_)::_) _
        refine .q 8 hG ?_
        refine⟨_,.r1 a8 (.cell T1 a8 .z1),?_⟩
        refine⟨_,.cons .z2 (.nil),?_⟩
        first|(exfalso;(try dsimp only at *);omega)|exact⟨⟨4,0,min v39 v41,max v39 v41,⟨[]⟩,0⟩,H7 (by omega) (by omega) (by omega),fun _=>(show(4:Int)≠7 by decide),_,by assumption,rfl,rfl⟩|(obtain rfl:v9=1:=(by assumption);exact⟨_,E5 (Or.inl rfl) (by assumption),fun _=>(show(1:Int)≠7 by decide),_,by assumption,rfl,rfl⟩)|(obtain rfl:v9=2:=(by assumption);exact⟨_,E5 (Or.inr (Or.inl rfl)) (by assumption),fun _=>(show(2:Int)≠7 by decide),_,by assumption,rfl,rfl⟩)|(obtain rfl:v9=3:=(by assumption);exact⟨_,E5 (Or.inr (Or.inr rfl)) (by assumption),fun _=>(show(3:Int)≠7 by decide),_,by assumption,rfl,rfl⟩)|(obtain rfl:v9=4:=(by assumption);exact⟨⟨4,0,min v39 v41,max v39 v41,⟨[]⟩,0⟩,H7 (by omega) (by omega) (by omega),fun _=>(show(4:Int)≠7 by decide),_,by assumption,rfl,rfl⟩)|(obtain rfl:v9=5:=(by assumption);exact⟨⟨5,0,v53,v55,⟨[]⟩,0⟩,K4 (by omega) (by omega) (by omega) (by omega),fun _=>(show(5:Int)≠7 by decide),_,by assumption,rfl,rfl⟩)|(obtain rfl:v9=5:=(by assumption);exact⟨⟨5,0,v53,(v53+v64+1440 - 1) % 1440,⟨[]⟩,0⟩,K4 (by omega) (by omega) (by omega) (by omega),fun _=>(show(5:Int)≠7 by decide),_,by assumption,rfl,rfl⟩)|(obtain rfl:v9=6:=(by assumption);exact⟨_,Q9 (by assumption),fun _=>(show(6:Int)≠7 by decide),_,by assumption,rfl,rfl⟩)|(obtain rfl:v9=7:=(by assumption);exact⟨⟨7,0,0,0,⟨[]⟩,v78⟩,L8 (by omega) (by omega),fun h=>(by subst h;simp at hc17),_,by assumption,rfl,rfl⟩)
       ·refine .q 7 hG ?_
        refine⟨_,.r1 a8 (.cell T1 a8 .z1),?_⟩
        refine⟨_,.cons .z2 (.nil),?_⟩
        first|(exfalso;(try dsimp only at *);omega)|exact⟨⟨4,0,min v39 v41,max v39 v41,⟨[]⟩,0⟩,H7 (by omega) (by omega) (by omega),fun _=>(show(4:Int)≠7 by decide),_,by assumption,rfl,rfl⟩|(obtain rfl:v9=1:=(by assumption);exact⟨_,E5 (Or.inl rfl) (by assumption),fun _=>(show(1:Int)≠7 by decide),_,by assumption,rfl,rfl⟩)|(obtain rfl:v9=2:=(by assumption);exact⟨_,E5 (Or.inr (Or.inl rfl)) (by assumption),fun _=>(show(2:Int)≠7 by decide),_,by assumption,rfl,rfl⟩)|(obtain rfl:v9=3:=(by assumption);exact⟨_,E5 (Or.inr (Or.inr rfl)) (by assumption),fun _=>(show(3:Int)≠7 by decide),_,by assumption,rfl,rfl⟩)|(obtain rfl:v9=4:=(by assumption);exact⟨⟨4,0,min v39 v41,max v39 v41,⟨[]⟩,0⟩,H7 (by omega) (by omega) (by omega),fun _=>(show(4:Int)≠7 by decide),_,by assumption,rfl,rfl⟩)|(obtain rfl:v9=5:=(by assumption);exact⟨⟨5,0,v53,v55,⟨[]⟩,0⟩,K4 (by omega) (by omega) (by omega) (by omega),fun _=>(show(5:Int)≠7 by decide),_,by assumption,rfl,rfl⟩)|(obtain rfl:v9=5:=(by assumption);exact⟨⟨5,0,v53,(v53+v64+1440 - 1) % 1440,⟨[]⟩,0⟩,K4 (by omega) (by omega) (by omega) (by omega),fun _=>(show(5:Int)≠7 by decide),_,by assumption,rfl,rfl⟩)|(obtain rfl:v9=6:=(by assumption);exact⟨_,Q9 (by assumption),fun _=>(show(6:Int)≠7 by decide),_,by assumption,rfl,rfl⟩)|(obtain rfl:v9=7:=(by assumption);exact⟨⟨7,0,0,0,⟨[]⟩,v78⟩,L8 (by omega) (by omega),fun h=>(by subst h;simp at hc17),_,by assumption,rfl,rfl⟩)
      ·refine .q 6 hG ⟨fun hc70 => ?_,fun hc70 => ?_⟩
       ·refine .q 2 hG ?_
        refine .h (.C8 hG (b4o _ _ (by assumption)) .z2 (.cons (.t a8) .nil) (by rintro _ _ ⟨_,_,_,_,_,rfl⟩;exact⟨_,rfl⟩) fun r73 B73 hr73 => ?_)
        obtain⟨s73,hs73,d73,hd73,rfl,hB⟩:=hr73
        cases hB
        refine .q 9 hG ?_
        refine⟨_,.r1 a8 (.cell T1 a8 .z1),?_⟩
        refine⟨_,.cons .z2 (.nil),?_⟩
        first|(exfalso;(try dsimp only at *);omega)|exact⟨⟨4,0,min v39 v41,max v39 v41,⟨[]⟩,0⟩,H7 (by omega) (by omega) (by omega),fun _=>(show(4:Int)≠7 by decide),_,by assumption,rfl,rfl⟩|(obtain rfl:v9=1:=(by assumption);exact⟨_,E5 (Or.inl rfl) (by assumption),fun _=>(show(1:Int)≠7 by decide),_,by assumption,rfl,rfl⟩)|(obtain rfl:v9=2:=(by assumption);exact⟨_,E5 (Or.inr (Or.inl rfl)) (by assumption),fun _=>(show(2:Int)≠7 by decide),_,by assumption,rfl,rfl⟩)|(obtain rfl:v9=3:=(by assumption);exact⟨_,E5 (Or.inr (Or.inr rfl)) (by assumption),fun _=>(show(3:Int)≠7 by decide),_,by assumption,rfl,rfl⟩)|(obtain rfl:v9=4:=(by assumption);exact⟨⟨4,0,min v39 v41,max v39 v41,⟨[]⟩,0⟩,H7 (by omega) (by omega) (by omega),fun _=>(show(4:Int)≠7 by decide),_,by assumption,rfl,rfl⟩)|(obtain rfl:v9=5:=(by assumption);exact⟨⟨5,0,v53,v55,⟨[]⟩,0⟩,K4 (by omega) (by omega) (by omega) (by omega),fun _=>(show(5:Int)≠7 by decide),_,by assumption,rfl,rfl⟩)|(obtain rfl:v9=5:=(by assumption);exact⟨⟨5,0,v53,(v53+v64+1440 - 1) % 1440,⟨[]⟩,0⟩,K4 (by omega) (by omega) (by omega) (by omega),fun _=>(show(5:Int)≠7 by decide),_,by assumption,rfl,rfl⟩)|(obtain rfl:v9=6:=(by assumption);exact⟨_,Q9 (by assumption),fun _=>(show(6:Int)≠7 by decide),_,by assumption,rfl,rfl⟩)|(obtain rfl:v9=7:=(by assumption);exact⟨⟨7,0,0,0,⟨[]⟩,v78⟩,L8 (by omega) (by omega),fun h=>(by subst h;simp at hc17),_,by assumption,rfl,rfl⟩)
       ·refine .q 6 hG ⟨fun hc75 => ?_,fun hc75 => ?_⟩
        ·refine .q 2 hG ?_
         refine .h (.C8 hG (c15 _ _ _ (by assumption) (by decide) (by decide)) .z2 (.cons (.t a8) (.cons (.i a8) .nil)) (by rintro _ _ ⟨_,_,_,_,_,_,rfl⟩;exact⟨_,rfl⟩) fun r78 B78 hr78 => ?_)
         obtain⟨v78,h078,h178,d78,hd78,rfl,hB⟩:=hr78
         cases hB
         refine .q 9 hG ?_
         refine⟨_,.r1 a8 (.cell T1 a8 .z1),?_⟩
         refine⟨_,.cons .z2 (.nil),?_⟩
         first|(exfalso;(try dsimp only at *);omega)|exact⟨⟨4,0,min v39 v41,max v39 v41,⟨[]⟩,0⟩,H7 (by omega) (by omega) (by omega),fun _=>(show(4:Int)≠7 by decide),_,by assumption,rfl,rfl⟩|(obtain rfl:v9=1:=(by assumption);exact⟨_,E5 (Or.inl rfl) (by assumption),fun _=>(show(1:Int)≠7 by decide),_,by assumption,rfl,rfl⟩)|(obtain rfl:v9=2:=(by assumption);exact⟨_,E5 (Or.inr (Or.inl rfl)) (by assumption),fun _=>(show(2:Int)≠7 by decide),_,by assumption,rfl,rfl⟩)|(obtain rfl:v9=3:=(by assumption);exact⟨_,E5 (Or.inr (Or.inr rfl)) (by assumption),fun _=>(show(3:Int)≠7 by decide),_,by assumption,rfl,rfl⟩)|(obtain rfl:v9=4:=(by assumption);exact⟨⟨4,0,min v39 v41,max v39 v41,⟨[]⟩,0⟩,H7 (by omega) (by omega) (by omega),fun _=>(show(4:Int)≠7 by decide),_,by assumption,rfl,rfl⟩)|(obtain rfl:v9=5:=(by assumption);exact⟨⟨5,0,v53,v55,⟨[]⟩,0⟩,K4 (by omega) (by omega) (by omega) (by omega),fun _=>(show(5:Int)≠7 by decide),_,by assumption,rfl,rfl⟩)|(obtain rfl:v9=5:=(by assumption);exact⟨⟨5,0,v53,(v53+v64+1440 - 1) % 1440,⟨[]⟩,0⟩,K4 (by omega) (by omega) (by omega) (by omega),fun _=>(show(5:Int)≠7 by decide),_,by assumption,rfl,rfl⟩)|(obtain rfl:v9=6:=(by assumption);exact⟨_,Q9 (by assumption),fun _=>(show(6:Int)≠7 by decide),_,by assumption,rfl,rfl⟩)|(obtain rfl:v9=7:=(by assumption);exact⟨⟨7,0,0,0,⟨[]⟩,v78⟩,L8 (by omega) (by omega),fun h=>(by subst h;simp at hc17),_,by assumption,rfl,rfl⟩)
        ·refine .q 7 hG ?_
         refine⟨_,.r1 a8 (.cell T1 a8 .z1),?_⟩
         refine⟨_,.cons .z2 (.nil),?_⟩
         first|(exfalso;(try dsimp only at *);omega)|exact⟨⟨4,0,min v39 v41,max v39 v41,⟨[]⟩,0⟩,H7 (by omega) (by omega) (by omega),fun _=>(show(4:Int)≠7 by decide),_,by assumption,rfl,rfl⟩|(obtain rfl:v9=1:=(by assumption);exact⟨_,E5 (Or.inl rfl) (by assumption),fun _=>(show(1:Int)≠7 by decide),_,by assumption,rfl,rfl⟩)|(obtain rfl:v9=2:=(by assumption);exact⟨_,E5 (Or.inr (Or.inl rfl)) (by assumption),fun _=>(show(2:Int)≠7 by decide),_,by assumption,rfl,rfl⟩)|(obtain rfl:v9=3:=(by assumption);exact⟨_,E5 (Or.inr (Or.inr rfl)) (by assumption),fun _=>(show(3:Int)≠7 by decide),_,by assumption,rfl,rfl⟩)|(obtain rfl:v9=4:=(by assumption);exact⟨⟨4,0,min v39 v41,max v39 v41,⟨[]⟩,0⟩,H7 (by omega) (by omega) (by omega),fun _=>(show(4:Int)≠7 by decide),_,by assumption,rfl,rfl⟩)|(obtain rfl:v9=5:=(by assumption);exact⟨⟨5,0,v53,v55,⟨[]⟩,0⟩,K4 (by omega) (by omega) (by omega) (by omega),fun _=>(show(5:Int)≠7 by decide),_,by assumption,rfl,rfl⟩)|(obtain rfl:v9=5:=(by assumption);exact⟨⟨5,0,v53,(v53+v64+1440 - 1) % 1440,⟨[]⟩,0⟩,K4 (by omega) (by omega) (by omega) (by omega),fun _=>(show(5:Int)≠7 by decide),_,by assumption,rfl,rfl⟩)|(obtain rfl:v9=6:=(by assumption);exact⟨_,Q9 (by assumption),fun _=>(show(6:Int)≠7 by decide),_,by assumption,rfl,rfl⟩)|(obtain rfl:v9=7:=(by assumption);exact⟨⟨7,0,0,0,⟨[]⟩,v78⟩,L8 (by omega) (by omega),fun h=>(by subst h;simp at hc17),_,by assumption,rfl,rfl⟩)
theorem a5u (w:Value) (d:m6) (hd:G9 d):F5 gl prog 33 [dk w] [.ob w d] (fun r Hs=>∃ c:Y0,∃ d',G9 d'∧r = .v c∧Hs = [.ob w d']):=by
 refine F5.Q6 func33 rfl (by kernel_rfl) 20 rfl rfl _ rfl _ rfl fun C hC hG => ?_
 refine .q 3 hG fun b2 => ?_
 refine .q 5 hG ?_
 refine .h (.C8 hG (G0 _ _ _ (by first|assumption|exact y1 _) (by omega) (by omega)) .z1 (.cons (.t a8) (.cons (.i a8) .nil)) (by rintro _ _ ⟨_,_,_,_,_,_,rfl⟩;exact⟨_,rfl⟩) fun r4 B4 hr4 => ?_)
 obtain⟨v4,d4,h04,h14,hd4,rfl,hB⟩:=hr4
 cases hB
 refine .q 3 hG ⟨fun hc5 => ?_,fun hc5 => ?_⟩
 ·refine .q 3 hG ?_
  refine .h (.C8 hG (S0 _ _ _ (by assumption)) .z1 (.cons (.t a8) (.cons .b .nil)) (by rintro _ _ ⟨_,_,_,_,_,_,rfl⟩;exact⟨_,rfl⟩) fun r7 B7 hr7 => ?_)
  obtain⟨p7,hp7,hk7,d7,hd7,rfl,hB⟩:=hr7
  cases hB
  refine .p (.bS1 m9.l1 a8 a0C b9K (fun c1=>(⟨false,c1,0,[],[]⟩:m9)) (fun _=>a8) a8 a8 (.t a8) ?_)
  refine .q 3 hG ?_
  refine⟨_,.r1 a8 (.cell a0C a8 .z),?_⟩
  refine⟨_,.cons .z1 (.nil),?_⟩
  exact⟨_,_,by assumption,rfl,rfl⟩
 ·refine .q 4 hG ?_
  refine .h (.C8 hG (G0 _ _ _ (by first|assumption|exact y1 _) (by omega) (by omega)) .z1 (.cons (.t a8) (.cons (.i a8) .nil)) (by rintro _ _ ⟨_,_,_,_,_,_,rfl⟩;exact⟨_,rfl⟩) fun r10 B10 hr10 => ?_)
  obtain⟨v10,d10,h010,h110,hd10,rfl,hB⟩:=hr10
  cases hB
  refine .q 1 hG ?_
  refine .h (.b8m hG (a9N _ _ _ (by first|assumption|exact y1 _) (by omega) (by omega)) .z1 (.cons (.t a8) (.cons (.i a8) .nil)) (by rintro _ _ ⟨_,_,_,_,_,_,rfl⟩;exact⟨_,_,rfl⟩) fun r12 Bn12 B12 hr12 => ?_)
  obtain⟨u12,l12,hl12,d12,hd12,rfl,hB⟩:=hr12
  cases hB
  show D5 _ _ _ _ _ _ _ ((true,_)::_)
  refine .bs a8 (by decide) fun b13 => ?_
  refine .ap (by simp<;>omega) (by simp<;>omega) fun w14 => ?_
  refine .q 1 hG ?_
  refine .h (.b8m hG (a9N _ _ _ (by first|assumption|exact y1 _) (by omega) (by omega)) .z3 (.cons (.t a8) (.cons (.i a8) .nil)) (by rintro _ _ ⟨_,_,_,_,_,_,rfl⟩;exact⟨_,_,rfl⟩) fun r16 Bn16 B16 hr16 => ?_)
  obtain⟨u16,l16,hl16,d16,hd16,rfl,hB⟩:=hr16
  cases hB
  show D5 _ _ _ _ _ _ _ ((true,_)::_)
  refine .bs a8 (by decide) fun b17 => ?_
  refine .ap (by simp<;>omega) (by simp<;>omega) fun w18 => ?_
  refine .u0 hC .z3 (.as 14 a8 .z3 (.u0 hC .z1 (.as 18 a8 .z1 (.p (.bS4 m9.l0 m9.l2 m9.l3 m9.l4 a8 a0C b9K (fun c0 c2 c3 c4=>(⟨c0,default,c2,c3,c4⟩:m9)) (fun _ _ _ _=>a8) a8 a8 a8 a8 a8 .b (.t a8) (.t a8) (.t a8) ?_)))))
  refine .q 3 hG ?_
  refine⟨_,.r1 a8 (.cell a0C a8 .z4),?_⟩
  refine⟨_,.cons .z5 (.nil),?_⟩
  exact⟨_,_,by assumption,rfl,rfl⟩
abbrev Pass:=x8
abbrev Dis:=p6
abbrev c19:=C5
abbrev b0Y:=x7
def a04 {α β:Type} [Inhabited β] (r:D0×α×Int) (f:D0→α→D0×β×Int):D0×β×Int:=if r.2.2=0 then f r.1 r.2.1 else (default,default,r.2.2)
theorem F8 {α β:Type} [Inhabited β] {r:D0×α×Int} (h:r.2.2=0) (f:D0→α→D0×β×Int):a04 r f=f r.1 r.2.1:=if_pos h
theorem Q3 {α β:Type} [Inhabited β] {r:D0×α×Int} (h:¬r.2.2=0) (f:D0→α→D0×β×Int):a04 r f=(default,default,r.2.2):=if_neg h
def a5v (a:D0) (k:Tag) (m:List UInt8):D0×Tag×Int:=a04 (G8 a k m) fun b t=>a04 (G8 b t E9) fun c _=>(c,t,0)
def a7v (a:D0) (root:u4) (n:Int):D0×Pass×Int :=
 if J6 root.Number n=false then (default,default,1) else a04 (a5v a root.Key (O4 n)) fun b t=>(b,⟨root.Number,n,[],t⟩,0)
def a6w (p:Pass) (c:Y0):Bool:=decide (64≤p.j9.length)||(c.Q2&&decide (8≤a1l p.j9))
def a4h (a:D0) (p:Pass) (c:Y0):D0×Pass×Int :=
 if I4 c=false then (default,default,5) else if a6w p c then (default,default,2) else
 a04 (a5v a p.Tag (Y5 c)) fun b t=>(b,⟨p.D3,p.A8,p.j9 ++ [c],t⟩,0)
def a0L (t:B2):Bool:=decide (0≤t.a3y)&&decide (t.a3y≤t.a6T)&&decide (t.a6T≤150)
def a0f (k:Tag) (t:B2):List UInt8:=k.l++J0 t.a3y.toNat++J0 t.a6T.toNat
def a35 (a:D0) (c:b0Y) (t:B2):D0×c19×Int :=
 if (a0L t&&decide (0≤c.G6)&&decide (c.G6≤7))=false then (default,default,1) else
 a04 (Q7 a) fun b k=>a04 (Q8 b c.Key b.F9 (a0f k t)) fun d x=>(d,⟨c.G6,k,x⟩,0)
def b2q (a:D0) (p:Pass) (b:c19):D0×Pass×Int :=
 a04 (G8 a p.Tag (A9 b.j8)) fun a t=>a04 (Q8 a t 0 b.Key.l) fun a x=>a4h a p ⟨true,default,b.G6,b.j8,x⟩
def T5 (a:D0) (d:Dis) (p:Pred):D0×Dis×Int :=
 if B0 p=false then (default,default,5) else if p.Kind=7 then (default,default,6) else if 8≤d.l8.length then (default,default,2) else
 a04 (G8 a d.Tag (X3 p)) fun b t=>(b,⟨d.j8,d.l8 ++ [p],t⟩,0)
def a29 (s:Str):Pred:=⟨6,0,0,0,s,0⟩
def a5W (a:D0) (k:Tag) (t:List UInt8) (s:Str):D0×Dis×Int:=a04 (G8 a k (a0D t)) fun b x=>T5 b ⟨t,[],x⟩ (a29 s)
def a1p (a:D0) (p:Pass):List Pred→D0×Pass×Int
 | []=>(a,p,0)
 | x::l=>a04 (a4h a p ⟨false,x,0,[],[]⟩) fun b q=>a1p b q l
def a2L (a:D0) (d:Dis) (leaf:Tag) (r:Rq):D0×Bnd×Int :=
 if S2 r=false then (default,default,1) else a04 (G8 a d.Tag (X4 leaf r)) fun b t=>(b,⟨d.j8,d.l8,t⟩,0)
def a2M (leaf:Tag) (r:Rq) (a:D0):List Dis→D0×List Bnd×Int
 | []=>(a,[],0)
 | d::l=>a04 (a2L a d leaf r) fun b x=>a04 (a2M leaf r b l) fun c y=>(c,x::y,0)
def b8A (p:Pass) (l:List Dis) (r:Rq):Q4:=⟨r,p.D3,p.A8,p.j9,default,l.map fun d=>⟨d.j8,d.l8,default⟩⟩
theorem b5C (b:List UInt8):u1 gl prog 188 [.v b] (fun r=>r = .v (decide (1≤b.length)&&decide (b.length≤1024))):=by
 refine u1.jn func188 (by kernel_rfl) 11 rfl fun C hC hG => ?_
 refine .q 17 hG ?_
 refine .e1 a8 a8 ?_
 refine congrArg AV.v ?_;congr 1<;>(rw [decide_eq_decide];omega)
theorem a8P (c:Y0):u1 gl prog 149 [.v c] (fun r=>r = .v (I4 c)):=by
 refine u1.jn func149 (by kernel_rfl) 50 rfl fun C hC hG => ?_
 refine .q 3 hG fun b1 => ?_
 refine .q 4 hG ?_
 refine .A0 hC .z (.M1 1 a8 .z ?_)
 refine .q 5 hG ?_
 refine .cond (.t a8) (fun hc5 => ?_) (fun hc5 => ?_)
 ·refine .q 4 hG ?_
  refine .k hG (a4J _) ?_
  refine .q 20 hG ?_
  refine .e1 a8 a8 ?_
  refine congrArg AV.v ?_
  unfold I4
  simp_all
 ·refine .q 5 hG ?_
  refine .p (.bS0 (α:=j3) a8 T1 a7K (.p (.a2c X9 (by decide) a8 (by kernel_rfl) (.t a8) (.t a8) ?_)))
  refine .q 13 hG ?_
  refine .kg hG (b5C _) ?_
  refine .q 4 hG ?_
  refine .kg hG (b5C _) ?_
  refine .q 4 hG ?_
  refine .e1 a8 a8 ?_
  refine congrArg AV.v ?_
  unfold I4
  simp_all
theorem c3o (n:Nat):decide ((1:Int)≤(n:Int))=decide (1≤n):=decide_eq_decide.2 (by omega)
theorem b5D (n:Nat):decide ((n:Int)≤1024)=decide (n≤1024):=decide_eq_decide.2 (by omega)
theorem a1I {c:Y0} (h:I4 c=true):W9 c=(E7 c,0):=by unfold W9;rw [if_pos h]
theorem a5b {c:Y0} (h:¬I4 c=true):W9 c=([],5):=by unfold W9;rw [if_neg h]
theorem a4N (c:Y0):u1 gl prog 166 [.v c] (fun r=>r = .v (I4 c)):=by
 refine u1.jn func166 (by kernel_rfl) 64 rfl fun C hC hG => ?_
 refine .q 3 hG fun b1 => ?_
 refine .q 4 hG ?_
 refine .A0 hC .z (.M1 1 a8 .z ?_)
 refine .q 5 hG ?_
 refine .cond (.t a8) (fun hc5 => ?_) (fun hc5 => ?_)
 ·refine .q 4 hG ?_
  refine .k hG (a1k _) ?_
  refine .q 20 hG ?_
  refine .e1 a8 a8 ?_
  refine congrArg AV.v ?_
  unfold I4
  (try simp only [c3o,b5D])
  simp_all [Bool.and_assoc]
 ·refine .q 5 hG ?_
  refine .p (.bS0 (α:=j3) a8 T1 a7K (.p (.a2c X9 (by decide) a8 (by kernel_rfl) (.t a8) (.t a8) ?_)))
  refine .q 37 hG ?_
  refine .e1 a8 a8 ?_
  refine congrArg AV.v ?_
  unfold I4
  (try simp only [c3o,b5D])
  simp_all [Bool.and_assoc]
theorem b2r (l:List Y0) (hl:l.length≤1000000):u1 gl prog 59 [.v l] (fun r=>r = .v (a0K l)):=by
 refine u1.jn func59 (by kernel_rfl) 22 rfl fun C hC hG => ?_
 refine .q 6 hG ?_
 refine .p (.assign .raw ?_)
 refine .q 3 hG ?_
 refine .a1e 97 Pred ?_
 refine .q 6 hG ?_
 refine .D9 (α:=Nat×Value) [(6,_),(7,_)] (fun x R=>(3,.raw x.2)::(8,.v (x.1:Int))::R) (fun x => [(true,.own 97 x.2 (a0K (l.take x.1)))]) (fun x=>x.1≤l.length) (fun x=>l.length - x.1) ((0,.slice none 0 0)) (.c2 a8 a8 (.nil _)) ?_ (.c2 a8 a8 (.c2 a8 a8 (.nil _))) (a8) fun x hF => ?_
 ·simp
 obtain⟨k,w⟩:=x
 dsimp only at hF ⊢
 have hfl:(a0K (l.take k)).length≤1000000:=Nat.le_trans (a0Z _) (by simp<;>omega)
 refine .q 6 hG ⟨fun hc9 => ?_,fun hc9 => ?_⟩
 ·refine .q 5 hG ?_
  refine .ix (by omega) (by omega) ?_
  refine .q 2 hG fun b5 => ?_
  refine .q 3 hG ?_
  refine .A0 hC .z (.M1 5 a8 .z (.drop ?_))
  refine .q 5 hG ?_
  refine .cond (.t a8) (fun hc14 => ?_) (fun hc14 => ?_)
  ·refine .q 4 hG ?_
   refine .bs a8 (by decide) fun b18 => ?_
   refine .ap (by simp<;>omega) (by simp<;>omega) fun w19 => ?_
   refine .q 1 hG ?_
   refine .drop ?_
   refine .q 2 hG ?_
   refine .ad (by omega) (by omega) ?_
   refine .q 2 hG ?_
   refine⟨(k+1,_),.c2 rfl rfl (.c2 rfl rfl (.nil _)),congrArg (fun q => [(true,E3.own _ _ q)]) (by dsimp only;rw [a2m l k (by omega)];simp_all),?_,by dsimp only;omega⟩
   dsimp only;omega
  ·refine .q 2 hG ?_
   refine .ad (by omega) (by omega) ?_
   refine .q 2 hG ?_
   refine⟨(k+1,_),.c2 rfl rfl (.c2 rfl rfl (.nil _)),congrArg (fun q => [(true,E3.own _ _ q)]) (by dsimp only;rw [a2m l k (by omega)];simp_all),?_,by dsimp only;omega⟩
   dsimp only;omega
 ·refine .q 2 hG ?_
  refine .u0 hC .z (.as 3 a8 .z ?_)
  refine .q 5 hG ?_
  refine .e1 a8 a8 ?_
  refine congrArg AV.v ?_
  rw [List.take_of_length_le (by omega)]
theorem b6z (l:List Y0) (hl:l.length≤1000000):u1 gl prog 26 [.v l] (fun r=>r = .v (a0K l)):=by
 refine u1.jn func26 (by kernel_rfl) 26 rfl fun C hC hG => ?_
 refine .q 6 hG ?_
 refine .p (.assign .raw ?_)
 refine .q 3 hG ?_
 refine .a1e 97 Pred ?_
 refine .q 4 hG ?_
 refine .D9 (α:=Nat×Value) [(0,_)] (fun x R=>(3,.raw x.2)::(4,.v (x.1:Int))::R) (fun x => [(true,.own 97 x.2 (a0K (l.take x.1)))]) (fun x=>x.1≤l.length) (fun x=>l.length - x.1) ((0,.slice none 0 0)) (.cons a8 (.nil _)) ?_ (.c2 a8 a8 (.cons a8 (.nil _))) (a8) fun x hF => ?_
 ·simp
 obtain⟨k,w⟩:=x
 dsimp only at hF ⊢
 have hfl:(a0K (l.take k)).length≤1000000:=Nat.le_trans (a0Z _) (by simp<;>omega)
 refine .q 9 hG ⟨fun hc8 => ?_,fun hc8 => ?_⟩
 ·refine .q 7 hG ?_
  refine .ix (by omega) (by omega) ?_
  refine .q 4 hG ?_
  refine .cond (.t a8) (fun hc16 => ?_) (fun hc16 => ?_)
  ·refine .q 4 hG ?_
   refine .ix (by omega) (by omega) ?_
   refine .q 2 hG ?_
   refine .bs a8 (by decide) fun b23 => ?_
   refine .ap (by simp<;>omega) (by simp<;>omega) fun w24 => ?_
   refine .q 1 hG ?_
   refine .drop ?_
   refine .q 3 hG ?_
   refine .ad (by omega) (by omega) ?_
   refine .q 2 hG ?_
   refine⟨(k+1,_),.c2 rfl rfl (.cons rfl (.nil _)),congrArg (fun q => [(true,E3.own _ _ q)]) (by dsimp only;rw [a2m l k (by omega)];simp_all),?_,by dsimp only;omega⟩
   dsimp only;omega
  ·refine .q 3 hG ?_
   refine .ad (by omega) (by omega) ?_
   refine .q 2 hG ?_
   refine⟨(k+1,_),.c2 rfl rfl (.cons rfl (.nil _)),congrArg (fun q => [(true,E3.own _ _ q)]) (by dsimp only;rw [a2m l k (by omega)];simp_all),?_,by dsimp only;omega⟩
   dsimp only;omega
 ·refine .q 2 hG ?_
  refine .u0 hC .z (.as 3 a8 .z ?_)
  refine .q 5 hG ?_
  refine .e1 a8 a8 ?_
  refine congrArg AV.v ?_
  rw [List.take_of_length_le (by omega)]
theorem a9Z (l:List Y0) (hl:l.length≤1000000):u1 gl prog 105 [.v l] (fun r=>r = .v (a1l l)):=by
 refine u1.jn func105 (by kernel_rfl) 9 rfl fun C hC hG => ?_
 refine .q 5 hG ?_
 have hfl:=a0Z l
 refine .q 4 hG ?_
 refine .k hG (b6z _ hl) ?_
 refine .q 1 hG ?_
 refine .sb (by omega) (by omega) ?_
 refine .q 3 hG ?_
 refine .e1 a8 a8 ?_
 rfl
theorem a7w (l:List Y0):u1 gl prog 106 [.v l] (fun r=>r = .v (l.all I4)):=by
 refine u1.jn func106 (by kernel_rfl) 16 rfl fun C hC hG => ?_
 refine .q 6 hG ?_
 refine .T7 0 a8 fun hl => ?_
 refine .q 4 hG ?_
 refine .D9 (α:=Nat) [(0,_)] (fun k R=>(3,.v (k:Int))::R) (fun k => []) (fun k=>k≤l.length∧(l.take k).all I4=true) (fun k=>l.length - k) (0) (.cons a8 (.nil _)) ?_ (.c2 a8 a8 (.nil _)) (a8) fun k hF => ?_
 ·simp
 obtain⟨h1,h2⟩:=hF
 refine .q 9 hG ⟨fun hc7 => ?_,fun hc7 => ?_⟩
 ·refine .q 7 hG ?_
  refine .ix (by omega) (by omega) ?_
  refine .q 1 hG ?_
  refine .k hG (a4N _) ?_
  refine .q 2 hG ?_
  refine .cond (.t a8) (fun hc15 => ?_) (fun hc15 => ?_)
  ·refine .q 5 hG ?_
   refine .e1 a8 a8 ?_
   refine congrArg AV.v (Eq.symm ?_)
   rw [b0M I4 l k (by omega)]
   simp_all
  ·refine .q 3 hG ?_
   refine .ad (by omega) (by omega) ?_
   refine .q 2 hG ?_
   refine⟨k+1,.c2 rfl rfl (.nil _),rfl,?_,by omega⟩
   refine⟨by omega,?_⟩;rw [all_succ _ _ _ (by omega),h2];simpa using hc15
 ·refine .q 6 hG ?_
  refine .e1 a8 a8 ?_
  refine congrArg AV.v (Eq.symm ?_)
  rw [List.take_of_length_le (by omega)] at h2
  exact h2
theorem b2s (c:Y0):u1 gl prog 91 [.v c] (fun r=>r = .t2 (.v (W9 c).1) (.v (W9 c).2)):=by
 refine u1.jn func91 (by kernel_rfl) 52 rfl fun C hC hG => ?_
 refine .q 3 hG fun b1 => ?_
 refine .q 5 hG ?_
 refine .A0 hC .z (.M1 1 a8 .z ?_)
 refine .q 2 hG ?_
 refine .k hG (a8P _) ?_
 refine .q 2 hG ?_
 refine .cond (.t a8) (fun hc12 => ?_) (fun hc12 => ?_)
 ·refine .q 6 hG ?_
  refine .e2 a8 a8 a8 ?_
  rw [a5b (by simpa using hc12)]
 ·refine .q 3 hG ?_
  have hco:I4 c=true:=by simpa using hc12
  refine .q 5 hG ?_
  refine .cond (.t a8) (fun hc15 => ?_) (fun hc15 => ?_)
  ·refine .q 4 hG ?_
   refine .k hG (a61 _) ?_
   refine .q 7 hG ?_
   have h15:c.Q2=false:=by simpa using hc15
   obtain⟨hpo,-⟩:=a25 hco h15
   have hpl:=H4 (O3 hpo)
   rw [y3 hpo]
   refine .q 1 hG ?_
   refine .bs a8 (by decide) fun b22 => ?_
   refine .q 1 hG ?_
   refine .ap (by simp<;>omega) (by simp<;>omega) fun w24 => ?_
   refine .q 4 hG ?_
   refine .u0 hC .z (.as 2 a8 .z ?_)
   refine .q 1 hG ?_
   refine .e2 a8 a8 a8 ?_
   rw [a1I hco]
   unfold E7
   rw [h15]
   rfl
  ·refine .q 2 hG ?_
   obtain⟨g1,g2,g3,g4,g5,g6,g7⟩:=a23 hco (by simpa using hc15)
   have hn:=B3 (n:=c.G6.toNat) (by omega)
   refine .q 1 hG ?_
   refine .bs a8 (by decide) fun b27=>(.u0 hC .z (.as 27 a8 .z ?_))
   refine .q 2 hG ?_
   refine .p (.o7 hG ((a1D _ _ (by simp) (by omega) (by omega)).b8n) (.cons (.t a8) (.cons (.t a8) .nil)) ?_)
   refine .q 13 hG ?_
   refine .p (.O0 (⟨[_,_],a8⟩:(I7 2 (List UInt8))) c3e c04 (.cons (m0.idx 0 (by decide)) _ a8 (.t a8) (.cons (m0.idx 1 (by decide)) _ a8 (.t a8) .nil)) a8 ?_)
   refine .q 3 hG ?_
   refine .D9 (α:=Nat×List UInt8) [(37,_)] (fun x R=>(6,.v x.2)::(7,.v (0:Int))::(38,.v (x.1:Int))::R) (Function.const _ _) (fun x=>x.1≤2∧x.2 = [2]++J0 c.G6.toNat++T3 a0R ([c.j8,c.U4].take x.1)) (fun x=>2 - x.1) ((0,[2]++J0 c.G6.toNat)) (.cons a8 (.nil _)) ?_ (.c2 a8 a8 (.c2 a8 a8 (.nil _))) (a8) fun x hF => ?_
   ·exact⟨Nat.zero_le _,by simp [T3]⟩
   obtain⟨k,y⟩:=x
   obtain⟨h1,h2⟩:=hF
   dsimp only at h1 h2 ⊢
   have hy:y.length≤3000:=(by have h5:=a1H g5;have h7:=a1H g7;have h8:k=0∨k=1∨k=2:=(by omega);rw [h2];rcases h8 with rfl|rfl|rfl<;>simp [T3]<;>omega)
   have hxk:∀ (h:k < [c.j8,c.U4].length),([c.j8,c.U4][k]).length≤1024:=(by intro h;have h8:k=0∨k=1:=(by simp at h;omega);rcases h8 with rfl|rfl;exact g5;exact g7)
   refine .q 6 hG ⟨fun hc39 => ?_,fun hc39 => ?_⟩
   ·refine .q 5 hG ?_
    refine .p (.ix c04 a8 (.t a8) (.t a8) (by omega) (by omega) ?_)
    refine .q 7 hG ?_
    refine .M3 (.t a8) (fun hc42 => ?_) (fun hc42=>(by exfalso;exact hc42 rfl))
    refine .q 3 hG ?_
    refine .p (.o7 hG (b0W _ _ (by omega) (hxk (by simp<;>omega))) (.cons (.t a8) (.cons (.t a8) .nil)) ?_)
    refine .q 7 hG ?_
    refine .ad (by omega) (by omega) ?_
    refine .q 2 hG ?_
    refine⟨(k+1,_),.c2 rfl rfl (.c2 rfl rfl (.nil _)),rfl,?_,by dsimp only;omega⟩
    refine⟨by omega,?_⟩;rw [a1G a0R _ k (by simp<;>omega),←List.append_assoc,←h2];simp [a0R]
   ·refine .q 2 hG ?_
    skip
    refine .q 7 hG ?_
    refine .e2 a8 a8 a8 ?_
    obtain rfl:k=2:=(by omega)
    rw [a1I hco]
    unfold E7
    rw [if_pos (by simpa using hc15),h2]
    simp [T3,a0R]
theorem a90 (c:Y0):u1 gl prog 167 [.v c] (fun r=>r = .t2 (.v (W9 c).1) (.v (W9 c).2)):=by
 refine u1.jn func167 (by kernel_rfl) 34 rfl fun C hC hG => ?_
 refine .q 3 hG fun b1 => ?_
 refine .q 5 hG ?_
 refine .A0 hC .z (.M1 1 a8 .z ?_)
 refine .q 2 hG ?_
 refine .k hG (a4N _) ?_
 refine .q 2 hG ?_
 refine .cond (.t a8) (fun hc8 => ?_) (fun hc8 => ?_)
 ·refine .q 6 hG ?_
  refine .e2 a8 a8 a8 ?_
  rw [a5b (by simpa using hc8)]
 ·refine .q 3 hG ?_
  have hco:I4 c=true:=by simpa using hc8
  refine .q 5 hG ?_
  refine .cond (.t a8) (fun hc11 => ?_) (fun hc11 => ?_)
  ·refine .q 4 hG ?_
   refine .k hG (a5S _) ?_
   refine .q 7 hG ?_
   have h11:c.Q2=false:=by simpa using hc11
   obtain⟨hpo,-⟩:=a25 hco h11
   have hpl:=H4 (O3 hpo)
   rw [y3 hpo]
   refine .q 1 hG ?_
   refine .bs a8 (by decide) fun b18 => ?_
   refine .q 1 hG ?_
   refine .ap (by simp<;>omega) (by simp<;>omega) fun w20 => ?_
   refine .q 3 hG ?_
   refine .u0 hC .z (.as 2 a8 .z ?_)
   refine .q 1 hG ?_
   refine .e2 a8 a8 a8 ?_
   rw [a1I hco]
   unfold E7
   rw [h11]
   rfl
  ·refine .q 2 hG ?_
   obtain⟨g1,g2,g3,g4,g5,g6,g7⟩:=a23 hco (by simpa using hc11)
   have hn:=B3 (n:=c.G6.toNat) (by omega)
   have hn2:=B3 (n:=c.j8.length) (by omega)
   have hn3:=B3 (n:=c.U4.length) (by omega)
   refine .a7n (by kernel_rfl) 15 [[],[],[(22,1)],[(23,2)],[(21,0),(24,3)],[],[(26,5)],[(27,6)],[(25,4),(28,7)],[],[(30,9)],[(31,10)],[(29,8),(32,11)],[(33,12)],[]] [0,4,8,12,13] a8 (by kernel_rfl) a8 (by kernel_rfl) (by decide) (.inl ?_)
   refine⟨_,fun H=>j6.A7 m9.l2 (fun x=>x.G6) b7B a8 (fun _=>a8) (.t a8) a8,?_⟩
   refine⟨_,fun H=>j6.G2 R6 (.t a8) a8,?_⟩
   refine⟨_,fun H=>j6.o7 hG (F4 _ (by omega) (by omega)) (.cons (.t a8) .nil) a8,?_⟩
   refine .inl ?_
   refine⟨_,fun H=>j6.A7 m9.l3 (fun x=>x.j8) a8n a8 (fun _=>a8) (.t a8) a8,?_⟩
   refine⟨_,fun H=>j6.G2 a2H (.t a8) a8,?_⟩
   refine⟨_,fun H=>j6.o7 hG (a1i _ (by omega)) (.cons (.t a8) .nil) a8,?_⟩
   refine .inl ?_
   refine⟨_,fun H=>j6.A7 m9.l4 (fun x=>x.U4) b7C a8 (fun _=>a8) (.t a8) a8,?_⟩
   refine⟨_,fun H=>j6.G2 a2H (.t a8) a8,?_⟩
   refine⟨_,fun H=>j6.o7 hG (a1i _ (by omega)) (.cons (.t a8) .nil) a8,?_⟩
   refine .inl (.inl ?_)
   refine⟨_,fun H=>j6.assign (.i a8) a8,?_⟩
   refine A6.buildSlice (α:=UInt8) ty5 underlying86 (.cons (.u8 2 rfl) .nil) rfl (by decide) fun b21 => ?_
   refine A6.append P5 (.inl ⟨_,underlying86⟩) rfl .z (.v (.t rfl)) (by simp<;>omega) (by simp<;>omega) (fun w25 => ?_) rfl
   refine A6.append P5 (.inl ⟨_,underlying86⟩) rfl .z (.v (.t rfl)) (by simp<;>omega) (by simp<;>omega) (fun w29 => ?_) rfl
   refine A6.append P5 (.inl ⟨_,underlying86⟩) rfl .z (.v (.t rfl)) (by simp<;>omega) (by simp<;>omega) (fun w33 => ?_) rfl
   refine A6.ofP (j6.assign (.t rfl) ?_)
   show D5 _ _ _ _ _ [] ((3,_)::(2,_)::(33,_)::(32,_)::(31,_)::(30,_)::(29,_)::(28,_)::(27,_)::(26,_)::(25,_)::(24,_)::(23,_)::(22,_)::(21,_)::_) _
   refine .q 1 hG ?_
   refine .u0 hC .z (.as 2 a8 .z ?_)
   refine .q 1 hG ?_
   refine .e2 a8 a8 a8 ?_
   rw [a1I hco]
   unfold E7
   rw [if_pos (by simpa using hc11)]
   simp [a0R]
end Go.Proofs.YtmmclghiidoldaaGreatDoor
