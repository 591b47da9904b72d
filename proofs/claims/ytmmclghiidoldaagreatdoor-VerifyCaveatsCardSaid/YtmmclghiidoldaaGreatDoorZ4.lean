/- Plain Lean over any program, and walks of this seat's functions: contracts, each proved once (part 4). -/
import Derived.Test.YtmmclghiidoldaaGreatDoorZ3
set_option maxRecDepth 1000000
set_option synthInstance.maxSize 1000000
set_option synthInstance.maxHeartbeats 10000000
set_option linter.unusedVariables false
set_option linter.unusedSimpArgs false
namespace Go.Proofs.YtmmclghiidoldaaGreatDoor
open Go.Proofs.Tryz
open Go.Fl Go.Ab Go.Mac Go.Sha
abbrev Pred:=j3
def a09 (m:UInt64) (n:Int):Bool:=decide (m≠0)&&(decide (n=64)||decide (m >>> UInt64.ofNat n.toNat=0))
theorem b3Q (m:UInt64) (n:Int) (h0:0≤n) (h1:n≤64):p4 gl prog 121 [.v m,.v n] (fun r=>r = .v (a09 m n)):=by
 refine p4.jn func121 (by kernel_rfl) 17 rfl fun C hC hG => ?_
 refine .q 11 hG ?_
 refine .goU 7 a8 (.t a8) (fun hg10 => .move (.q a8 hg10) a8) (.gn 10 a8 a8 (fun hc11 hg11 => .move (.t a8) a8) (.gn 10 a8 a8 (fun hc12 hg12 => .move (.t a8) a8) (.gn 10 a8 a8 (fun hc13 hg13 => .a6U (.ou a8 (Bool.and_eq_true_iff.2 ⟨hc13,beq_iff_eq.2 hg13⟩)) (.ou a8 (Bool.and_eq_true_iff.2 ⟨hc13,beq_iff_eq.2 hg13⟩)) (by first|omega|(simp;omega)|(have:=hg13;simp at this;omega)) (by first|omega|(simp;omega)|(have:=hg13;simp at this;omega)) a8) (.gn 10 a8 a8 (fun hc14 hg14 => .c1j (.ou a8 (Bool.and_eq_true_iff.2 ⟨hc14,beq_iff_eq.2 hg14⟩)) (.u64 0 a8) a8) (.go 7 a8 (.t a8) (fun hg15 => .a3Q (.ou a8 (beq_iff_eq.2 hg15)) (fun hp=>(.ou a8 (Bool.and_eq_true_iff.2 ⟨(beq_iff_eq.2 hg15),beq_iff_eq.2 hp⟩))) a8) ?_)))))
 refine .q 4 hG ?_
 refine .e1 a8 a8 ?_
 rfl
theorem a5J (s:Y4):p4 gl prog 122 [.v s] (fun r=>r = .v (Q3 s)):=by
 refine p4.jn func122 (by kernel_rfl) 28 rfl fun C hC hG => ?_
 refine .q 6 hG ?_
 refine .a9p 0 a8 fun hs => ?_
 refine .q 10 hG ?_
 refine .cond (.t a8) (fun hc11 => ?_) (fun hc11 => ?_)
 ·refine .q 5 hG ?_
  refine .e1 a8 a8 ?_
  refine congrArg AV.v ?_;simp only [Bool.or_eq_true,decide_eq_true_eq] at hc11;unfold Q3;rcases hc11 with h|h
  ·rw [decide_eq_false (show ¬1≤s.l.length by omega)];rfl
  ·rw [decide_eq_false (show ¬s.l.length≤16 by omega)];simp
 ·refine .q 9 hG ?_
  refine .D8 (α:=Nat) [(0,_),(13,_)] (fun k R=>(14,.v (k:Int))::R) (fun k => []) (fun k=>k≤s.l.length∧(s.l.take k).all a3U=true) (fun k=>s.l.length - k) (0) (.c2 a8 a8 (.nil _)) ?_ (.c2 a8 a8 (.cons a8 (.nil _))) (a8) fun k hF => ?_
  ·simp
  obtain⟨h1,h2⟩:=hF
  refine .q 6 hG ⟨fun hc15 => ?_,fun hc15 => ?_⟩
  ·refine .q 12 hG ?_
   refine .p (.b5a underlying9 (.t a8) (.t a8) (by omega) (by omega) ?_)
   refine .q 4 hG ?_
   refine .go 21 a8 (.t a8) (fun hg24 => .b5a underlying9 (.q a8 hg24) (.q a8 hg24) (by first|omega|(simp;omega)|(have:=hg24;simp at this;omega)) (by first|omega|(simp;omega)|(have:=hg24;simp at this;omega)) a8) ?_
   refine .q 3 hG ?_
   refine .cond (.t a8) (fun hc26 => ?_) (fun hc26 => ?_)
   ·refine .q 5 hG ?_
    refine .e1 a8 a8 ?_
    refine congrArg AV.v (Eq.symm ?_);unfold Q3;rw [b0v a3U s.l k (by omega),Bool.and_false];unfold a3U;simp only [Bool.or_eq_true,decide_eq_true_eq,Int.toNat_natCast] at hc26;rcases hc26 with h|h
    ·rw [decide_eq_false (UInt8.not_le.2 h)];rfl
    ·rw [decide_eq_false (UInt8.not_le.2 h),Bool.and_false]
   ·refine .q 2 hG ?_
    refine .ad (by omega) (by omega) ?_
    refine .q 2 hG ?_
    refine⟨k+1,.c2 rfl rfl (.cons rfl (.nil _)),rfl,?_,by omega⟩
    refine⟨by omega,?_⟩;rw [all_succ _ _ _ (by omega),h2];simp only [Bool.or_eq_false_iff,decide_eq_false_iff_not,Int.toNat_natCast] at hc26;unfold a3U;simp only [Bool.true_and,Bool.and_eq_true,decide_eq_true_eq];exact⟨UInt8.not_lt.1 hc26.1,UInt8.not_lt.1 hc26.2⟩
  ·refine .q 6 hG ?_
   refine .e1 a8 a8 ?_
   refine congrArg AV.v (Eq.symm ?_);simp only [Bool.or_eq_false_iff,decide_eq_false_iff_not] at hc11;unfold Q3;rw [List.take_of_length_le (by omega)] at h2;rw [h2];simp;omega
def G5 (k:Int):Int:=if k=1 then 64 else if k=2 then 32 else 7
def y5 (p:Pred):Bool :=
 if p.Kind=1∨p.Kind=2∨p.Kind=3 then a09 p.Mask (G5 p.Kind)&&decide (p=⟨p.Kind,p.Mask,0,0,⟨[]⟩,0⟩)
 else if p.Kind=4 then decide (0≤p.P1)&&decide (p.P1≤p.To)&&decide (p.To≤67108864)&&decide (p=⟨p.Kind,0,p.P1,p.To,⟨[]⟩,0⟩)
 else if p.Kind=5 then decide (0≤p.P1)&&decide (p.P1 < 1440)&&decide (0≤p.To)&&decide (p.To < 1440)&&decide (p=⟨p.Kind,0,p.P1,p.To,⟨[]⟩,0⟩)
 else if p.Kind=6 then Q3 p.Name&&decide (p=⟨p.Kind,0,0,0,p.Name,0⟩)
 else if p.Kind=7 then decide (0≤p.Number)&&decide (p.Number≤1000000)&&decide (p=⟨p.Kind,0,0,0,⟨[]⟩,p.Number⟩)
 else false
theorem a1y:∀ (i:Nat) (h:i < a6h.l.length),0≤a6h.l[i]∧a6h.l[i]≤64:=by decide
theorem S2 (k:Int) (h:k=1∨k=2∨k=3) (h2:k.toNat < a6h.l.length):a6h.l[k.toNat]=G5 k:=by
 rcases h with rfl|rfl|rfl<;>rfl
theorem a1W (p:Pred):p4 gl prog 63 [.v p] (fun r=>r = .v (y5 p)):=by
 refine p4.jn func63 (by kernel_rfl) 118 rfl fun C hC hG => ?_
 refine .q 3 hG fun b1 => ?_
 refine .q 3 hG ?_
 refine .y6 hC .z (.L6 1 a8 .z ?_)
 refine .q 3 hG ?_
 refine .p (.bS1 j3.l0 a8 Q2 a6G (fun c0=>(⟨c0,0,0,0,⟨[]⟩,0⟩:j3)) (fun _=>a8) a8 a8 (.t a8) ?_)
 refine .q 1 hG fun b3 => ?_
 refine .q 16 hG ⟨fun hc9 => ?_,fun hc9 => ?_⟩
 ·refine .q 2 hG ⟨fun hc9 => ?_,fun hc9 => ?_⟩
  ·refine .q 8 hG ?_
   refine .draw (by kernel_rfl) 13 [[],[(16,0)],[],[(18,2)],[(19,3)],[(20,4)],[(17,1),(21,5)],[(22,6)],[],[],[(24,8),(25,9)],[(23,7),(26,10)],[(27,11)]] a8 (by kernel_rfl) a8 ?_
   refine⟨_,j6.A7 j3.l1 (fun x=>x.Mask) a0G a8 (fun _=>a8) (.t a8) a8,?_⟩
   refine⟨_,j6.G6 a5D (.t a8) a8,?_⟩
   refine⟨_,j6.A7 j3.l0 (fun x=>x.Kind) a8e a8 (fun _=>a8) (.t a8) a8,?_⟩
   refine⟨_,j6.G6 P5 (.t a8) a8,?_⟩
   refine⟨_,j6.b9Z b7B (.c10 hG a06) (.t a8) (by omega) (by omega) a8,?_⟩
   refine⟨_,j6.G6 P5 (.t a8) a8,?_⟩
   refine⟨_,j6.o8 hG (b3Q _ _ (a1y _ _).1 (a1y _ _).2) (.cons (.t a8) (.cons (.t a8) .nil)) a8,?_⟩
   refine⟨_,j6.move (.t a8) a8,?_⟩
   refine⟨_,⟨_,_,a8,a8,fun hg24=>j6.G6 Q2 (.t a8) a8⟩,?_⟩
   refine⟨_,⟨_,_,a8,a8,fun hg25=>j6.S4 Q2 (.t a8) .z a8⟩,?_⟩
   refine⟨_,⟨_,_,a8,a8,fun hg26=>j6.a14 X4 (by decide) a8 (by kernel_rfl) (.q a8 hg26) (.q a8 hg26) a8⟩,?_⟩
   refine⟨_,j6.T5 (.t a8) (fun hp=>(.q a8 hp)) a8,?_⟩
   refine⟨_,j6.assign (.t a8) a8,?_⟩
   show D0 _ _ _ _ _ [] ((2,_)::(27,_)::(26,_)::(25,_)::(24,_)::(23,_)::(22,_)::(21,_)::(20,_)::(19,_)::(18,_)::(17,_)::(16,_)::_) _
   refine .q 2 hG ?_
   refine .e1 a8 a8 ?_
   first|(exfalso;omega)|(refine congrArg AV.v ?_;(try rw [S2 p.Kind (by omega)]);unfold y5;(repeat (first|rw [if_pos (by omega)]|rw [if_neg (by omega)]));(try rfl))
  ·refine .q 6 hG ⟨fun hc28 => ?_,fun hc28 => ?_⟩
   ·refine .q 1 hG ?_
    refine .D7 [j0,j1] (by kernel_rfl) 8 [[],[(30,0)],[],[(32,2)],[],[(34,4),(31,1)],[],[(35,6),(33,3)]] [5,7] a8 (by kernel_rfl) a8 (by kernel_rfl) (by decide) ?_
    refine⟨_,fun H=>j6.A7 j3.l2 (fun x=>x.P1) M4 a8 (fun _=>a8) (.t a8) a8,?_⟩
    refine⟨_,fun H=>j6.G6 P5 (.t a8) a8,?_⟩
    refine⟨_,fun H=>j6.A7 j3.l3 (fun x=>x.To) M5 a8 (fun _=>a8) (.t a8) a8,?_⟩
    refine⟨_,fun H=>j6.G6 P5 (.t a8) a8,?_⟩
    refine⟨_,fun H=>j6.A9 j3.l2 M4 a8 (.t a8) a8,?_⟩
    refine .inl ?_
    refine⟨_,fun H=>j6.A9 j3.l3 M5 a8 (.t a8) a8,?_⟩
    refine .inl ?_
    refine⟨⟨([],j2 [_,c8]),a8⟩,?_⟩
    refine A0.stF (fun y x => { x with P1:=y }) P5 (.t rfl) (.t rfl) .z (fun _ _=>rfl) ?_
    refine⟨⟨([],j2 [_,c8]),a8⟩,?_⟩
    refine A0.stF (fun y x => { x with To:=y }) P5 (.t rfl) (.t rfl) .z (fun _ _=>rfl) ?_
    refine⟨⟨([],j2 [_,c8]),a8⟩,?_⟩
    show D0 _ _ _ _ _ [] ((35,_)::(34,_)::(33,_)::(32,_)::(31,_)::(30,_)::_) _
    refine .q 21 hG ?_
    refine .go 51 a8 (.t a8) (fun hg54 => .a14 X4 (by decide) a8 (by kernel_rfl) (.q a8 hg54) (.q a8 hg54) a8) ?_
    refine .q 4 hG ?_
    refine .e1 a8 a8 ?_
    first|(exfalso;omega)|(refine congrArg AV.v ?_;(try rw [S2 p.Kind (by omega)]);unfold y5;(repeat (first|rw [if_pos (by omega)]|rw [if_neg (by omega)]));(try rfl))
   ·refine .q 6 hG ⟨fun hc56 => ?_,fun hc56 => ?_⟩
    ·refine .q 1 hG ?_
     refine .D7 [j0,j1] (by kernel_rfl) 8 [[],[(58,0)],[],[(60,2)],[],[(62,4),(59,1)],[],[(63,6),(61,3)]] [5,7] a8 (by kernel_rfl) a8 (by kernel_rfl) (by decide) ?_
     refine⟨_,fun H=>j6.A7 j3.l2 (fun x=>x.P1) M4 a8 (fun _=>a8) (.t a8) a8,?_⟩
     refine⟨_,fun H=>j6.G6 P5 (.t a8) a8,?_⟩
     refine⟨_,fun H=>j6.A7 j3.l3 (fun x=>x.To) M5 a8 (fun _=>a8) (.t a8) a8,?_⟩
     refine⟨_,fun H=>j6.G6 P5 (.t a8) a8,?_⟩
     refine⟨_,fun H=>j6.A9 j3.l2 M4 a8 (.t a8) a8,?_⟩
     refine .inl ?_
     refine⟨_,fun H=>j6.A9 j3.l3 M5 a8 (.t a8) a8,?_⟩
     refine .inl ?_
     refine⟨⟨([],j2 [_,c8]),a8⟩,?_⟩
     refine A0.stF (fun y x => { x with P1:=y }) P5 (.t rfl) (.t rfl) .z (fun _ _=>rfl) ?_
     refine⟨⟨([],j2 [_,c8]),a8⟩,?_⟩
     refine A0.stF (fun y x => { x with To:=y }) P5 (.t rfl) (.t rfl) .z (fun _ _=>rfl) ?_
     refine⟨⟨([],j2 [_,c8]),a8⟩,?_⟩
     show D0 _ _ _ _ _ [] ((63,_)::(62,_)::(61,_)::(60,_)::(59,_)::(58,_)::_) _
     refine .q 24 hG ?_
     refine .go 82 a8 (.t a8) (fun hg85 => .a14 X4 (by decide) a8 (by kernel_rfl) (.q a8 hg85) (.q a8 hg85) a8) ?_
     refine .q 4 hG ?_
     refine .e1 a8 a8 ?_
     first|(exfalso;omega)|(refine congrArg AV.v ?_;(try rw [S2 p.Kind (by omega)]);unfold y5;(repeat (first|rw [if_pos (by omega)]|rw [if_neg (by omega)]));(try rfl))
    ·refine .q 6 hG ⟨fun hc87 => ?_,fun hc87 => ?_⟩
     ·refine .q 11 hG ?_
      refine .k hG (a5J _) ?_
      refine .q 3 hG ?_
      refine .go 95 a8 (.t a8) (fun hg98 => .a14 X4 (by decide) a8 (by kernel_rfl) (.q a8 hg98) (.q a8 hg98) a8) ?_
      refine .q 4 hG ?_
      refine .e1 a8 a8 ?_
      first|(exfalso;omega)|(refine congrArg AV.v ?_;(try rw [S2 p.Kind (by omega)]);unfold y5;(repeat (first|rw [if_pos (by omega)]|rw [if_neg (by omega)]));(try rfl))
     ·refine .q 6 hG ⟨fun hc100 => ?_,fun hc100 => ?_⟩
      ·refine .q 20 hG ?_
       refine .go 113 a8 (.t a8) (fun hg116 => .a14 X4 (by decide) a8 (by kernel_rfl) (.q a8 hg116) (.q a8 hg116) a8) ?_
       refine .q 4 hG ?_
       refine .e1 a8 a8 ?_
       first|(exfalso;omega)|(refine congrArg AV.v ?_;(try rw [S2 p.Kind (by omega)]);unfold y5;(repeat (first|rw [if_pos (by omega)]|rw [if_neg (by omega)]));(try rfl))
      ·refine .q 6 hG ?_
       refine .e1 a8 a8 ?_
       first|(exfalso;omega)|(refine congrArg AV.v ?_;(try rw [S2 p.Kind (by omega)]);unfold y5;(repeat (first|rw [if_pos (by omega)]|rw [if_neg (by omega)]));(try rfl))
 ·refine .q 6 hG ⟨fun hc9 => ?_,fun hc9 => ?_⟩
  ·refine .q 2 hG ⟨fun hc9 => ?_,fun hc9 => ?_⟩
   ·refine .q 8 hG ?_
    refine .draw (by kernel_rfl) 13 [[],[(16,0)],[],[(18,2)],[(19,3)],[(20,4)],[(17,1),(21,5)],[(22,6)],[],[],[(24,8),(25,9)],[(23,7),(26,10)],[(27,11)]] a8 (by kernel_rfl) a8 ?_
    refine⟨_,j6.A7 j3.l1 (fun x=>x.Mask) a0G a8 (fun _=>a8) (.t a8) a8,?_⟩
    refine⟨_,j6.G6 a5D (.t a8) a8,?_⟩
    refine⟨_,j6.A7 j3.l0 (fun x=>x.Kind) a8e a8 (fun _=>a8) (.t a8) a8,?_⟩
    refine⟨_,j6.G6 P5 (.t a8) a8,?_⟩
    refine⟨_,j6.b9Z b7B (.c10 hG a06) (.t a8) (by omega) (by omega) a8,?_⟩
    refine⟨_,j6.G6 P5 (.t a8) a8,?_⟩
    refine⟨_,j6.o8 hG (b3Q _ _ (a1y _ _).1 (a1y _ _).2) (.cons (.t a8) (.cons (.t a8) .nil)) a8,?_⟩
    refine⟨_,j6.move (.t a8) a8,?_⟩
    refine⟨_,⟨_,_,a8,a8,fun hg24=>j6.G6 Q2 (.t a8) a8⟩,?_⟩
    refine⟨_,⟨_,_,a8,a8,fun hg25=>j6.S4 Q2 (.t a8) .z a8⟩,?_⟩
    refine⟨_,⟨_,_,a8,a8,fun hg26=>j6.a14 X4 (by decide) a8 (by kernel_rfl) (.q a8 hg26) (.q a8 hg26) a8⟩,?_⟩
    refine⟨_,j6.T5 (.t a8) (fun hp=>(.q a8 hp)) a8,?_⟩
    refine⟨_,j6.assign (.t a8) a8,?_⟩
    show D0 _ _ _ _ _ [] ((2,_)::(27,_)::(26,_)::(25,_)::(24,_)::(23,_)::(22,_)::(21,_)::(20,_)::(19,_)::(18,_)::(17,_)::(16,_)::_) _
    refine .q 2 hG ?_
    refine .e1 a8 a8 ?_
    first|(exfalso;omega)|(refine congrArg AV.v ?_;(try rw [S2 p.Kind (by omega)]);unfold y5;(repeat (first|rw [if_pos (by omega)]|rw [if_neg (by omega)]));(try rfl))
   ·refine .q 6 hG ⟨fun hc28 => ?_,fun hc28 => ?_⟩
    ·refine .q 1 hG ?_
     refine .D7 [j0,j1] (by kernel_rfl) 8 [[],[(30,0)],[],[(32,2)],[],[(34,4),(31,1)],[],[(35,6),(33,3)]] [5,7] a8 (by kernel_rfl) a8 (by kernel_rfl) (by decide) ?_
     refine⟨_,fun H=>j6.A7 j3.l2 (fun x=>x.P1) M4 a8 (fun _=>a8) (.t a8) a8,?_⟩
     refine⟨_,fun H=>j6.G6 P5 (.t a8) a8,?_⟩
     refine⟨_,fun H=>j6.A7 j3.l3 (fun x=>x.To) M5 a8 (fun _=>a8) (.t a8) a8,?_⟩
     refine⟨_,fun H=>j6.G6 P5 (.t a8) a8,?_⟩
     refine⟨_,fun H=>j6.A9 j3.l2 M4 a8 (.t a8) a8,?_⟩
     refine .inl ?_
     refine⟨_,fun H=>j6.A9 j3.l3 M5 a8 (.t a8) a8,?_⟩
     refine .inl ?_
     refine⟨⟨([],j2 [_,c8]),a8⟩,?_⟩
     refine A0.stF (fun y x => { x with P1:=y }) P5 (.t rfl) (.t rfl) .z (fun _ _=>rfl) ?_
     refine⟨⟨([],j2 [_,c8]),a8⟩,?_⟩
     refine A0.stF (fun y x => { x with To:=y }) P5 (.t rfl) (.t rfl) .z (fun _ _=>rfl) ?_
     refine⟨⟨([],j2 [_,c8]),a8⟩,?_⟩
     show D0 _ _ _ _ _ [] ((35,_)::(34,_)::(33,_)::(32,_)::(31,_)::(30,_)::_) _
     refine .q 21 hG ?_
     refine .go 51 a8 (.t a8) (fun hg54 => .a14 X4 (by decide) a8 (by kernel_rfl) (.q a8 hg54) (.q a8 hg54) a8) ?_
     refine .q 4 hG ?_
     refine .e1 a8 a8 ?_
     first|(exfalso;omega)|(refine congrArg AV.v ?_;(try rw [S2 p.Kind (by omega)]);unfold y5;(repeat (first|rw [if_pos (by omega)]|rw [if_neg (by omega)]));(try rfl))
    ·refine .q 6 hG ⟨fun hc56 => ?_,fun hc56 => ?_⟩
     ·refine .q 1 hG ?_
      refine .D7 [j0,j1] (by kernel_rfl) 8 [[],[(58,0)],[],[(60,2)],[],[(62,4),(59,1)],[],[(63,6),(61,3)]] [5,7] a8 (by kernel_rfl) a8 (by kernel_rfl) (by decide) ?_
      refine⟨_,fun H=>j6.A7 j3.l2 (fun x=>x.P1) M4 a8 (fun _=>a8) (.t a8) a8,?_⟩
      refine⟨_,fun H=>j6.G6 P5 (.t a8) a8,?_⟩
      refine⟨_,fun H=>j6.A7 j3.l3 (fun x=>x.To) M5 a8 (fun _=>a8) (.t a8) a8,?_⟩
      refine⟨_,fun H=>j6.G6 P5 (.t a8) a8,?_⟩
      refine⟨_,fun H=>j6.A9 j3.l2 M4 a8 (.t a8) a8,?_⟩
      refine .inl ?_
      refine⟨_,fun H=>j6.A9 j3.l3 M5 a8 (.t a8) a8,?_⟩
      refine .inl ?_
      refine⟨⟨([],j2 [_,c8]),a8⟩,?_⟩
      refine A0.stF (fun y x => { x with P1:=y }) P5 (.t rfl) (.t rfl) .z (fun _ _=>rfl) ?_
      refine⟨⟨([],j2 [_,c8]),a8⟩,?_⟩
      refine A0.stF (fun y x => { x with To:=y }) P5 (.t rfl) (.t rfl) .z (fun _ _=>rfl) ?_
      refine⟨⟨([],j2 [_,c8]),a8⟩,?_⟩
      show D0 _ _ _ _ _ [] ((63,_)::(62,_)::(61,_)::(60,_)::(59,_)::(58,_)::_) _
      refine .q 24 hG ?_
      refine .go 82 a8 (.t a8) (fun hg85 => .a14 X4 (by decide) a8 (by kernel_rfl) (.q a8 hg85) (.q a8 hg85) a8) ?_
      refine .q 4 hG ?_
      refine .e1 a8 a8 ?_
      first|(exfalso;omega)|(refine congrArg AV.v ?_;(try rw [S2 p.Kind (by omega)]);unfold y5;(repeat (first|rw [if_pos (by omega)]|rw [if_neg (by omega)]));(try rfl))
     ·refine .q 6 hG ⟨fun hc87 => ?_,fun hc87 => ?_⟩
      ·refine .q 11 hG ?_
       refine .k hG (a5J _) ?_
       refine .q 3 hG ?_
       refine .go 95 a8 (.t a8) (fun hg98 => .a14 X4 (by decide) a8 (by kernel_rfl) (.q a8 hg98) (.q a8 hg98) a8) ?_
       refine .q 4 hG ?_
       refine .e1 a8 a8 ?_
       first|(exfalso;omega)|(refine congrArg AV.v ?_;(try rw [S2 p.Kind (by omega)]);unfold y5;(repeat (first|rw [if_pos (by omega)]|rw [if_neg (by omega)]));(try rfl))
      ·refine .q 6 hG ⟨fun hc100 => ?_,fun hc100 => ?_⟩
       ·refine .q 20 hG ?_
        refine .go 113 a8 (.t a8) (fun hg116 => .a14 X4 (by decide) a8 (by kernel_rfl) (.q a8 hg116) (.q a8 hg116) a8) ?_
        refine .q 4 hG ?_
        refine .e1 a8 a8 ?_
        first|(exfalso;omega)|(refine congrArg AV.v ?_;(try rw [S2 p.Kind (by omega)]);unfold y5;(repeat (first|rw [if_pos (by omega)]|rw [if_neg (by omega)]));(try rfl))
       ·refine .q 6 hG ?_
        refine .e1 a8 a8 ?_
        first|(exfalso;omega)|(refine congrArg AV.v ?_;(try rw [S2 p.Kind (by omega)]);unfold y5;(repeat (first|rw [if_pos (by omega)]|rw [if_neg (by omega)]));(try rfl))
  ·refine .q 5 hG ⟨fun hc9 => ?_,fun hc9 => ?_⟩
   ·refine .q 8 hG ?_
    refine .draw (by kernel_rfl) 13 [[],[(16,0)],[],[(18,2)],[(19,3)],[(20,4)],[(17,1),(21,5)],[(22,6)],[],[],[(24,8),(25,9)],[(23,7),(26,10)],[(27,11)]] a8 (by kernel_rfl) a8 ?_
    refine⟨_,j6.A7 j3.l1 (fun x=>x.Mask) a0G a8 (fun _=>a8) (.t a8) a8,?_⟩
    refine⟨_,j6.G6 a5D (.t a8) a8,?_⟩
    refine⟨_,j6.A7 j3.l0 (fun x=>x.Kind) a8e a8 (fun _=>a8) (.t a8) a8,?_⟩
    refine⟨_,j6.G6 P5 (.t a8) a8,?_⟩
    refine⟨_,j6.b9Z b7B (.c10 hG a06) (.t a8) (by omega) (by omega) a8,?_⟩
    refine⟨_,j6.G6 P5 (.t a8) a8,?_⟩
    refine⟨_,j6.o8 hG (b3Q _ _ (a1y _ _).1 (a1y _ _).2) (.cons (.t a8) (.cons (.t a8) .nil)) a8,?_⟩
    refine⟨_,j6.move (.t a8) a8,?_⟩
    refine⟨_,⟨_,_,a8,a8,fun hg24=>j6.G6 Q2 (.t a8) a8⟩,?_⟩
    refine⟨_,⟨_,_,a8,a8,fun hg25=>j6.S4 Q2 (.t a8) .z a8⟩,?_⟩
    refine⟨_,⟨_,_,a8,a8,fun hg26=>j6.a14 X4 (by decide) a8 (by kernel_rfl) (.q a8 hg26) (.q a8 hg26) a8⟩,?_⟩
    refine⟨_,j6.T5 (.t a8) (fun hp=>(.q a8 hp)) a8,?_⟩
    refine⟨_,j6.assign (.t a8) a8,?_⟩
    show D0 _ _ _ _ _ [] ((2,_)::(27,_)::(26,_)::(25,_)::(24,_)::(23,_)::(22,_)::(21,_)::(20,_)::(19,_)::(18,_)::(17,_)::(16,_)::_) _
    refine .q 2 hG ?_
    refine .e1 a8 a8 ?_
    first|(exfalso;omega)|(refine congrArg AV.v ?_;(try rw [S2 p.Kind (by omega)]);unfold y5;(repeat (first|rw [if_pos (by omega)]|rw [if_neg (by omega)]));(try rfl))
   ·refine .q 6 hG ⟨fun hc28 => ?_,fun hc28 => ?_⟩
    ·refine .q 1 hG ?_
     refine .D7 [j0,j1] (by kernel_rfl) 8 [[],[(30,0)],[],[(32,2)],[],[(34,4),(31,1)],[],[(35,6),(33,3)]] [5,7] a8 (by kernel_rfl) a8 (by kernel_rfl) (by decide) ?_
     refine⟨_,fun H=>j6.A7 j3.l2 (fun x=>x.P1) M4 a8 (fun _=>a8) (.t a8) a8,?_⟩
     refine⟨_,fun H=>j6.G6 P5 (.t a8) a8,?_⟩
     refine⟨_,fun H=>j6.A7 j3.l3 (fun x=>x.To) M5 a8 (fun _=>a8) (.t a8) a8,?_⟩
     refine⟨_,fun H=>j6.G6 P5 (.t a8) a8,?_⟩
     refine⟨_,fun H=>j6.A9 j3.l2 M4 a8 (.t a8) a8,?_⟩
     refine .inl ?_
     refine⟨_,fun H=>j6.A9 j3.l3 M5 a8 (.t a8) a8,?_⟩
     refine .inl ?_
     refine⟨⟨([],j2 [_,c8]),a8⟩,?_⟩
     refine A0.stF (fun y x => { x with P1:=y }) P5 (.t rfl) (.t rfl) .z (fun _ _=>rfl) ?_
     refine⟨⟨([],j2 [_,c8]),a8⟩,?_⟩
     refine A0.stF (fun y x => { x with To:=y }) P5 (.t rfl) (.t rfl) .z (fun _ _=>rfl) ?_
     refine⟨⟨([],j2 [_,c8]),a8⟩,?_⟩
     show D0 _ _ _ _ _ [] ((35,_)::(34,_)::(33,_)::(32,_)::(31,_)::(30,_)::_) _
     refine .q 21 hG ?_
     refine .go 51 a8 (.t a8) (fun hg54 => .a14 X4 (by decide) a8 (by kernel_rfl) (.q a8 hg54) (.q a8 hg54) a8) ?_
     refine .q 4 hG ?_
     refine .e1 a8 a8 ?_
     first|(exfalso;omega)|(refine congrArg AV.v ?_;(try rw [S2 p.Kind (by omega)]);unfold y5;(repeat (first|rw [if_pos (by omega)]|rw [if_neg (by omega)]));(try rfl))
    ·refine .q 6 hG ⟨fun hc56 => ?_,fun hc56 => ?_⟩
     ·refine .q 1 hG ?_
      refine .D7 [j0,j1] (by kernel_rfl) 8 [[],[(58,0)],[],[(60,2)],[],[(62,4),(59,1)],[],[(63,6),(61,3)]] [5,7] a8 (by kernel_rfl) a8 (by kernel_rfl) (by decide) ?_
      refine⟨_,fun H=>j6.A7 j3.l2 (fun x=>x.P1) M4 a8 (fun _=>a8) (.t a8) a8,?_⟩
      refine⟨_,fun H=>j6.G6 P5 (.t a8) a8,?_⟩
      refine⟨_,fun H=>j6.A7 j3.l3 (fun x=>x.To) M5 a8 (fun _=>a8) (.t a8) a8,?_⟩
      refine⟨_,fun H=>j6.G6 P5 (.t a8) a8,?_⟩
      refine⟨_,fun H=>j6.A9 j3.l2 M4 a8 (.t a8) a8,?_⟩
      refine .inl ?_
      refine⟨_,fun H=>j6.A9 j3.l3 M5 a8 (.t a8) a8,?_⟩
      refine .inl ?_
      refine⟨⟨([],j2 [_,c8]),a8⟩,?_⟩
      refine A0.stF (fun y x => { x with P1:=y }) P5 (.t rfl) (.t rfl) .z (fun _ _=>rfl) ?_
      refine⟨⟨([],j2 [_,c8]),a8⟩,?_⟩
      refine A0.stF (fun y x => { x with To:=y }) P5 (.t rfl) (.t rfl) .z (fun _ _=>rfl) ?_
      refine⟨⟨([],j2 [_,c8]),a8⟩,?_⟩
      show D0 _ _ _ _ _ [] ((63,_)::(62,_)::(61,_)::(60,_)::(59,_)::(58,_)::_) _
      refine .q 24 hG ?_
      refine .go 82 a8 (.t a8) (fun hg85 => .a14 X4 (by decide) a8 (by kernel_rfl) (.q a8 hg85) (.q a8 hg85) a8) ?_
      refine .q 4 hG ?_
      refine .e1 a8 a8 ?_
      first|(exfalso;omega)|(refine congrArg AV.v ?_;(try rw [S2 p.Kind (by omega)]);unfold y5;(repeat (first|rw [if_pos (by omega)]|rw [if_neg (by omega)]));(try rfl))
     ·refine .q 6 hG ⟨fun hc87 => ?_,fun hc87 => ?_⟩
      ·refine .q 11 hG ?_
       refine .k hG (a5J _) ?_
       refine .q 3 hG ?_
       refine .go 95 a8 (.t a8) (fun hg98 => .a14 X4 (by decide) a8 (by kernel_rfl) (.q a8 hg98) (.q a8 hg98) a8) ?_
       refine .q 4 hG ?_
       refine .e1 a8 a8 ?_
       first|(exfalso;omega)|(refine congrArg AV.v ?_;(try rw [S2 p.Kind (by omega)]);unfold y5;(repeat (first|rw [if_pos (by omega)]|rw [if_neg (by omega)]));(try rfl))
      ·refine .q 6 hG ⟨fun hc100 => ?_,fun hc100 => ?_⟩
       ·refine .q 20 hG ?_
        refine .go 113 a8 (.t a8) (fun hg116 => .a14 X4 (by decide) a8 (by kernel_rfl) (.q a8 hg116) (.q a8 hg116) a8) ?_
        refine .q 4 hG ?_
        refine .e1 a8 a8 ?_
        first|(exfalso;omega)|(refine congrArg AV.v ?_;(try rw [S2 p.Kind (by omega)]);unfold y5;(repeat (first|rw [if_pos (by omega)]|rw [if_neg (by omega)]));(try rfl))
       ·refine .q 6 hG ?_
        refine .e1 a8 a8 ?_
        first|(exfalso;omega)|(refine congrArg AV.v ?_;(try rw [S2 p.Kind (by omega)]);unfold y5;(repeat (first|rw [if_pos (by omega)]|rw [if_neg (by omega)]));(try rfl))
theorem c2q (m:UInt64):(m < 4294967296)↔m >>> 32=0:=by
 rw [UInt64.lt_iff_toNat_lt,←UInt64.toNat_inj,UInt64.toNat_shiftRight]
 show m.toNat < 4294967296↔m.toNat >>> 32=0
 rw [Nat.shiftRight_eq_div_pow];constructor<;>(intro h;omega)
theorem c3I (m:UInt64):(m < 128)↔m >>> 7=0:=by
 rw [UInt64.lt_iff_toNat_lt,←UInt64.toNat_inj,UInt64.toNat_shiftRight]
 show m.toNat < 128↔m.toNat >>> 7=0
 rw [Nat.shiftRight_eq_div_pow];constructor<;>(intro h;omega)
theorem a1X (m:UInt64):a09 m (G5 1)=decide (m≠0):=by unfold a09 G5;simp
theorem a1Y (m:UInt64):a09 m (G5 2)=(decide (m≠0)&&decide (m < 4294967296)):=by
 have e:decide (m < 4294967296)=decide (m >>> 32=0):=decide_eq_decide.2 (c2q m)
 rw [e];rfl
theorem a1Z (m:UInt64):a09 m (G5 3)=(decide (m≠0)&&decide (m < 128)):=by
 have e:decide (m < 128)=decide (m >>> 7=0):=decide_eq_decide.2 (c3I m)
 rw [e];rfl
theorem a0f (p:Pred):p4 gl prog 107 [.v p] (fun r=>r = .v (y5 p)):=by
 refine p4.jn func107 (by kernel_rfl) 120 rfl fun C hC hG => ?_
 refine .q 3 hG fun b1 => ?_
 refine .q 3 hG ?_
 refine .y6 hC .z (.L6 1 a8 .z ?_)
 refine .q 3 hG ?_
 refine .p (.bS1 j3.l0 a8 Q2 a6G (fun c0=>(⟨c0,0,0,0,⟨[]⟩,0⟩:j3)) (fun _=>a8) a8 a8 (.t a8) ?_)
 refine .q 1 hG fun b3 => ?_
 refine .q 19 hG ⟨fun hc10 => ?_,fun hc10 => ?_⟩
 ·refine .D7 [j0,j1] (by kernel_rfl) 8 [[],[(12,0)],[],[(14,2)],[(15,3)],[],[(17,5),(13,1)],[(16,4)]] [6] a8 (by kernel_rfl) a8 (by kernel_rfl) (by decide) ?_
  refine⟨_,fun H=>j6.A7 j3.l1 (fun x=>x.Mask) a0G a8 (fun _=>a8) (.t a8) a8,?_⟩
  refine⟨_,fun H=>j6.G6 a5D (.t a8) a8,?_⟩
  refine⟨_,fun H=>j6.A7 j3.l1 (fun x=>x.Mask) a0G a8 (fun _=>a8) (.t a8) a8,?_⟩
  refine⟨_,fun H=>j6.G6 a5D (.t a8) a8,?_⟩
  refine⟨_,fun H=>j6.b4Z (.t a8) (.u64 0 a8) a8,?_⟩
  refine⟨_,fun H=>j6.A9 j3.l1 a0G a8 (.t a8) a8,?_⟩
  refine .inl ?_
  refine⟨_,fun H=>j6.assign (.t a8) a8,?_⟩
  refine⟨⟨([],j2 [_,c8]),a8⟩,?_⟩
  refine A0.stF (fun y x => { x with Mask:=y }) a5D (.t rfl) (.t rfl) .z (fun _ _=>rfl) ?_
  refine⟨⟨([],j2 [_,c8]),a8⟩,?_⟩
  show D0 _ _ _ _ _ [] ((4,_)::(17,_)::(16,_)::(15,_)::(14,_)::(13,_)::(12,_)::_) _
  refine .q 7 hG ?_
  refine .go 115 a8 (.t a8) (fun hg118 => .a14 X4 (by decide) a8 (by kernel_rfl) (.q a8 hg118) (.q a8 hg118) a8) ?_
  refine .q 4 hG ?_
  refine .e1 a8 a8 ?_
  refine congrArg AV.v ?_
  unfold y5
  (repeat (first|rw [if_pos (by omega)]|rw [if_neg (by omega)]))
  (try first|rfl|(rw [show G5 p.Kind=G5 1 by rw [hc10],a1X])|(rw [show G5 p.Kind=G5 2 by rw [hc18],a1Y])|(rw [show G5 p.Kind=G5 3 by rw [hc31],a1Z]))
 ·refine .q 6 hG ⟨fun hc18 => ?_,fun hc18 => ?_⟩
  ·refine .D7 [j0,j1] (by kernel_rfl) 13 [[],[(20,0)],[],[(22,2)],[(23,3)],[(24,4)],[],[(26,6)],[(27,7)],[(25,5),(28,8)],[],[(30,10),(21,1)],[(29,9)]] [11] a8 (by kernel_rfl) a8 (by kernel_rfl) (by decide) ?_
   refine⟨_,fun H=>j6.A7 j3.l1 (fun x=>x.Mask) a0G a8 (fun _=>a8) (.t a8) a8,?_⟩
   refine⟨_,fun H=>j6.G6 a5D (.t a8) a8,?_⟩
   refine⟨_,fun H=>j6.A7 j3.l1 (fun x=>x.Mask) a0G a8 (fun _=>a8) (.t a8) a8,?_⟩
   refine⟨_,fun H=>j6.G6 a5D (.t a8) a8,?_⟩
   refine⟨_,fun H=>j6.b4Z (.t a8) (.u64 0 a8) a8,?_⟩
   refine⟨_,fun H=>j6.move (.t a8) a8,?_⟩
   refine⟨_,fun H=>⟨_,_,a8,a8,fun hg26=>j6.A7 j3.l1 (fun x=>x.Mask) a0G a8 (fun _=>a8) (.t a8) a8⟩,?_⟩
   refine⟨_,fun H=>⟨_,_,a8,a8,fun hg27=>j6.G6 a5D (.q a8 hg27) a8⟩,?_⟩
   refine⟨_,fun H=>⟨_,_,a8,a8,fun hg28=>j6.c1y (.q a8 hg28) (.u64 4294967296 a8) a8⟩,?_⟩
   refine⟨_,fun H=>j6.T5 (.t a8) (fun hp=>(.q a8 hp)) a8,?_⟩
   refine⟨_,fun H=>j6.A9 j3.l1 a0G a8 (.t a8) a8,?_⟩
   refine .inl ?_
   refine⟨_,fun H=>j6.assign (.t a8) a8,?_⟩
   refine⟨⟨([],j2 [_,c8]),a8⟩,?_⟩
   refine A0.stF (fun y x => { x with Mask:=y }) a5D (.t rfl) (.t rfl) .z (fun _ _=>rfl) ?_
   refine⟨⟨([],j2 [_,c8]),a8⟩,?_⟩
   show D0 _ _ _ _ _ [] ((4,_)::(30,_)::(29,_)::(28,_)::(27,_)::(26,_)::(25,_)::(24,_)::(23,_)::(22,_)::(21,_)::(20,_)::_) _
   refine .q 7 hG ?_
   refine .go 115 a8 (.t a8) (fun hg118 => .a14 X4 (by decide) a8 (by kernel_rfl) (.q a8 hg118) (.q a8 hg118) a8) ?_
   refine .q 4 hG ?_
   refine .e1 a8 a8 ?_
   refine congrArg AV.v ?_
   unfold y5
   (repeat (first|rw [if_pos (by omega)]|rw [if_neg (by omega)]))
   (try first|rfl|(rw [show G5 p.Kind=G5 1 by rw [hc10],a1X])|(rw [show G5 p.Kind=G5 2 by rw [hc18],a1Y])|(rw [show G5 p.Kind=G5 3 by rw [hc31],a1Z]))
  ·refine .q 6 hG ⟨fun hc31 => ?_,fun hc31 => ?_⟩
   ·refine .D7 [j0,j1] (by kernel_rfl) 13 [[],[(33,0)],[],[(35,2)],[(36,3)],[(37,4)],[],[(39,6)],[(40,7)],[(38,5),(41,8)],[],[(43,10),(34,1)],[(42,9)]] [11] a8 (by kernel_rfl) a8 (by kernel_rfl) (by decide) ?_
    refine⟨_,fun H=>j6.A7 j3.l1 (fun x=>x.Mask) a0G a8 (fun _=>a8) (.t a8) a8,?_⟩
    refine⟨_,fun H=>j6.G6 a5D (.t a8) a8,?_⟩
    refine⟨_,fun H=>j6.A7 j3.l1 (fun x=>x.Mask) a0G a8 (fun _=>a8) (.t a8) a8,?_⟩
    refine⟨_,fun H=>j6.G6 a5D (.t a8) a8,?_⟩
    refine⟨_,fun H=>j6.b4Z (.t a8) (.u64 0 a8) a8,?_⟩
    refine⟨_,fun H=>j6.move (.t a8) a8,?_⟩
    refine⟨_,fun H=>⟨_,_,a8,a8,fun hg39=>j6.A7 j3.l1 (fun x=>x.Mask) a0G a8 (fun _=>a8) (.t a8) a8⟩,?_⟩
    refine⟨_,fun H=>⟨_,_,a8,a8,fun hg40=>j6.G6 a5D (.q a8 hg40) a8⟩,?_⟩
    refine⟨_,fun H=>⟨_,_,a8,a8,fun hg41=>j6.c1y (.q a8 hg41) (.u64 128 a8) a8⟩,?_⟩
    refine⟨_,fun H=>j6.T5 (.t a8) (fun hp=>(.q a8 hp)) a8,?_⟩
    refine⟨_,fun H=>j6.A9 j3.l1 a0G a8 (.t a8) a8,?_⟩
    refine .inl ?_
    refine⟨_,fun H=>j6.assign (.t a8) a8,?_⟩
    refine⟨⟨([],j2 [_,c8]),a8⟩,?_⟩
    refine A0.stF (fun y x => { x with Mask:=y }) a5D (.t rfl) (.t rfl) .z (fun _ _=>rfl) ?_
    refine⟨⟨([],j2 [_,c8]),a8⟩,?_⟩
    show D0 _ _ _ _ _ [] ((4,_)::(43,_)::(42,_)::(41,_)::(40,_)::(39,_)::(38,_)::(37,_)::(36,_)::(35,_)::(34,_)::(33,_)::_) _
    refine .q 7 hG ?_
    refine .go 115 a8 (.t a8) (fun hg118 => .a14 X4 (by decide) a8 (by kernel_rfl) (.q a8 hg118) (.q a8 hg118) a8) ?_
    refine .q 4 hG ?_
    refine .e1 a8 a8 ?_
    refine congrArg AV.v ?_
    unfold y5
    (repeat (first|rw [if_pos (by omega)]|rw [if_neg (by omega)]))
    (try first|rfl|(rw [show G5 p.Kind=G5 1 by rw [hc10],a1X])|(rw [show G5 p.Kind=G5 2 by rw [hc18],a1Y])|(rw [show G5 p.Kind=G5 3 by rw [hc31],a1Z]))
   ·refine .q 6 hG ⟨fun hc44 => ?_,fun hc44 => ?_⟩
    ·refine .D7 [j0,j1] (by kernel_rfl) 24 [[],[(46,0)],[],[(48,2)],[],[(50,4)],[(51,5)],[(52,6)],[],[(54,8)],[],[(56,10)],[(55,9),(57,11)],[(53,7),(58,12)],[(59,13)],[],[(61,15)],[(62,16)],[(60,14),(63,17)],[],[(65,19),(47,1)],[],[(66,21),(49,3)],[(64,18)]] [20,22] a8 (by kernel_rfl) a8 (by kernel_rfl) (by decide) ?_
     refine⟨_,fun H=>j6.A7 j3.l2 (fun x=>x.P1) M4 a8 (fun _=>a8) (.t a8) a8,?_⟩
     refine⟨_,fun H=>j6.G6 P5 (.t a8) a8,?_⟩
     refine⟨_,fun H=>j6.A7 j3.l3 (fun x=>x.To) M5 a8 (fun _=>a8) (.t a8) a8,?_⟩
     refine⟨_,fun H=>j6.G6 P5 (.t a8) a8,?_⟩
     refine⟨_,fun H=>j6.A7 j3.l2 (fun x=>x.P1) M4 a8 (fun _=>a8) (.t a8) a8,?_⟩
     refine⟨_,fun H=>j6.G6 P5 (.t a8) a8,?_⟩
     refine⟨_,fun H=>j6.geq (.t a8) (.i a8) a8,?_⟩
     refine⟨_,fun H=>j6.move (.t a8) a8,?_⟩
     refine⟨_,fun H=>⟨_,_,a8,a8,fun hg54=>j6.A7 j3.l2 (fun x=>x.P1) M4 a8 (fun _=>a8) (.t a8) a8⟩,?_⟩
     refine⟨_,fun H=>⟨_,_,a8,a8,fun hg55=>j6.G6 P5 (.q a8 hg55) a8⟩,?_⟩
     refine⟨_,fun H=>⟨_,_,a8,a8,fun hg56=>j6.A7 j3.l3 (fun x=>x.To) M5 a8 (fun _=>a8) (.t a8) a8⟩,?_⟩
     refine⟨_,fun H=>⟨_,_,a8,a8,fun hg57=>j6.G6 P5 (.q a8 hg57) a8⟩,?_⟩
     refine⟨_,fun H=>⟨_,_,a8,a8,fun hg58=>j6.leq (.q a8 hg58) (.q a8 hg58) a8⟩,?_⟩
     refine⟨_,fun H=>j6.T5 (.t a8) (fun hp=>(.q a8 hp)) a8,?_⟩
     refine⟨_,fun H=>j6.move (.t a8) a8,?_⟩
     refine⟨_,fun H=>⟨_,_,a8,a8,fun hg61=>j6.A7 j3.l3 (fun x=>x.To) M5 a8 (fun _=>a8) (.t a8) a8⟩,?_⟩
     refine⟨_,fun H=>⟨_,_,a8,a8,fun hg62=>j6.G6 P5 (.q a8 hg62) a8⟩,?_⟩
     refine⟨_,fun H=>⟨_,_,a8,a8,fun hg63=>j6.leq (.q a8 hg63) (.i a8) a8⟩,?_⟩
     refine⟨_,fun H=>j6.T5 (.t a8) (fun hp=>(.q a8 hp)) a8,?_⟩
     refine⟨_,fun H=>j6.A9 j3.l2 M4 a8 (.t a8) a8,?_⟩
     refine .inl ?_
     refine⟨_,fun H=>j6.A9 j3.l3 M5 a8 (.t a8) a8,?_⟩
     refine .inl ?_
     refine⟨_,fun H=>j6.assign (.t a8) a8,?_⟩
     refine⟨⟨([],j2 [_,c8]),a8⟩,?_⟩
     refine A0.stF (fun y x => { x with P1:=y }) P5 (.t rfl) (.t rfl) .z (fun _ _=>rfl) ?_
     refine⟨⟨([],j2 [_,c8]),a8⟩,?_⟩
     refine A0.stF (fun y x => { x with To:=y }) P5 (.t rfl) (.t rfl) .z (fun _ _=>rfl) ?_
     refine⟨⟨([],j2 [_,c8]),a8⟩,?_⟩
     show D0 _ _ _ _ _ [] ((4,_)::(66,_)::(65,_)::(64,_)::(63,_)::(62,_)::(61,_)::(60,_)::(59,_)::(58,_)::(57,_)::(56,_)::(55,_)::(54,_)::(53,_)::(52,_)::(51,_)::(50,_)::(49,_)::(48,_)::(47,_)::(46,_)::_) _
     refine .q 7 hG ?_
     refine .go 115 a8 (.t a8) (fun hg118 => .a14 X4 (by decide) a8 (by kernel_rfl) (.q a8 hg118) (.q a8 hg118) a8) ?_
     refine .q 4 hG ?_
     refine .e1 a8 a8 ?_
     refine congrArg AV.v ?_
     unfold y5
     (repeat (first|rw [if_pos (by omega)]|rw [if_neg (by omega)]))
     (try first|rfl|(rw [show G5 p.Kind=G5 1 by rw [hc10],a1X])|(rw [show G5 p.Kind=G5 2 by rw [hc18],a1Y])|(rw [show G5 p.Kind=G5 3 by rw [hc31],a1Z]))
    ·refine .q 6 hG ⟨fun hc67 => ?_,fun hc67 => ?_⟩
     ·refine .D7 [j0,j1] (by kernel_rfl) 27 [[],[(69,0)],[],[(71,2)],[],[(73,4)],[(74,5)],[(75,6)],[],[(77,8)],[(78,9)],[(76,7),(79,10)],[(80,11)],[],[(82,13)],[(83,14)],[(81,12),(84,15)],[(85,16)],[],[(87,18)],[(88,19)],[(86,17),(89,20)],[],[(91,22),(70,1)],[],[(92,24),(72,3)],[(90,21)]] [23,25] a8 (by kernel_rfl) a8 (by kernel_rfl) (by decide) ?_
      refine⟨_,fun H=>j6.A7 j3.l2 (fun x=>x.P1) M4 a8 (fun _=>a8) (.t a8) a8,?_⟩
      refine⟨_,fun H=>j6.G6 P5 (.t a8) a8,?_⟩
      refine⟨_,fun H=>j6.A7 j3.l3 (fun x=>x.To) M5 a8 (fun _=>a8) (.t a8) a8,?_⟩
      refine⟨_,fun H=>j6.G6 P5 (.t a8) a8,?_⟩
      refine⟨_,fun H=>j6.A7 j3.l2 (fun x=>x.P1) M4 a8 (fun _=>a8) (.t a8) a8,?_⟩
      refine⟨_,fun H=>j6.G6 P5 (.t a8) a8,?_⟩
      refine⟨_,fun H=>j6.geq (.t a8) (.i a8) a8,?_⟩
      refine⟨_,fun H=>j6.move (.t a8) a8,?_⟩
      refine⟨_,fun H=>⟨_,_,a8,a8,fun hg77=>j6.A7 j3.l2 (fun x=>x.P1) M4 a8 (fun _=>a8) (.t a8) a8⟩,?_⟩
      refine⟨_,fun H=>⟨_,_,a8,a8,fun hg78=>j6.G6 P5 (.q a8 hg78) a8⟩,?_⟩
      refine⟨_,fun H=>⟨_,_,a8,a8,fun hg79=>j6.lss (.q a8 hg79) (.i a8) a8⟩,?_⟩
      refine⟨_,fun H=>j6.T5 (.t a8) (fun hp=>(.q a8 hp)) a8,?_⟩
      refine⟨_,fun H=>j6.move (.t a8) a8,?_⟩
      refine⟨_,fun H=>⟨_,_,a8,a8,fun hg82=>j6.A7 j3.l3 (fun x=>x.To) M5 a8 (fun _=>a8) (.t a8) a8⟩,?_⟩
      refine⟨_,fun H=>⟨_,_,a8,a8,fun hg83=>j6.G6 P5 (.q a8 hg83) a8⟩,?_⟩
      refine⟨_,fun H=>⟨_,_,a8,a8,fun hg84=>j6.geq (.q a8 hg84) (.i a8) a8⟩,?_⟩
      refine⟨_,fun H=>j6.T5 (.t a8) (fun hp=>(.q a8 hp)) a8,?_⟩
      refine⟨_,fun H=>j6.move (.t a8) a8,?_⟩
      refine⟨_,fun H=>⟨_,_,a8,a8,fun hg87=>j6.A7 j3.l3 (fun x=>x.To) M5 a8 (fun _=>a8) (.t a8) a8⟩,?_⟩
      refine⟨_,fun H=>⟨_,_,a8,a8,fun hg88=>j6.G6 P5 (.q a8 hg88) a8⟩,?_⟩
      refine⟨_,fun H=>⟨_,_,a8,a8,fun hg89=>j6.lss (.q a8 hg89) (.i a8) a8⟩,?_⟩
      refine⟨_,fun H=>j6.T5 (.t a8) (fun hp=>(.q a8 hp)) a8,?_⟩
      refine⟨_,fun H=>j6.A9 j3.l2 M4 a8 (.t a8) a8,?_⟩
      refine .inl ?_
      refine⟨_,fun H=>j6.A9 j3.l3 M5 a8 (.t a8) a8,?_⟩
      refine .inl ?_
      refine⟨_,fun H=>j6.assign (.t a8) a8,?_⟩
      refine⟨⟨([],j2 [_,c8]),a8⟩,?_⟩
      refine A0.stF (fun y x => { x with P1:=y }) P5 (.t rfl) (.t rfl) .z (fun _ _=>rfl) ?_
      refine⟨⟨([],j2 [_,c8]),a8⟩,?_⟩
      refine A0.stF (fun y x => { x with To:=y }) P5 (.t rfl) (.t rfl) .z (fun _ _=>rfl) ?_
      refine⟨⟨([],j2 [_,c8]),a8⟩,?_⟩
      show D0 _ _ _ _ _ [] ((4,_)::(92,_)::(91,_)::(90,_)::(89,_)::(88,_)::(87,_)::(86,_)::(85,_)::(84,_)::(83,_)::(82,_)::(81,_)::(80,_)::(79,_)::(78,_)::(77,_)::(76,_)::(75,_)::(74,_)::(73,_)::(72,_)::(71,_)::(70,_)::(69,_)::_) _
      refine .q 7 hG ?_
      refine .go 115 a8 (.t a8) (fun hg118 => .a14 X4 (by decide) a8 (by kernel_rfl) (.q a8 hg118) (.q a8 hg118) a8) ?_
      refine .q 4 hG ?_
      refine .e1 a8 a8 ?_
      refine congrArg AV.v ?_
      unfold y5
      (repeat (first|rw [if_pos (by omega)]|rw [if_neg (by omega)]))
      (try first|rfl|(rw [show G5 p.Kind=G5 1 by rw [hc10],a1X])|(rw [show G5 p.Kind=G5 2 by rw [hc18],a1Y])|(rw [show G5 p.Kind=G5 3 by rw [hc31],a1Z]))
     ·refine .q 6 hG ⟨fun hc93 => ?_,fun hc93 => ?_⟩
      ·refine .draw (by kernel_rfl) 6 [[],[(95,0)],[],[(97,2)],[(98,3)],[]] a8 (by kernel_rfl) a8 ?_
       refine⟨_,j6.A7 j3.l4 (fun x=>x.Name) a94 a8 (fun _=>a8) (.t a8) a8,?_⟩
       refine⟨_,j6.G6 ty9 (.t a8) a8,?_⟩
       refine⟨_,j6.A7 j3.l4 (fun x=>x.Name) a94 a8 (fun _=>a8) (.t a8) a8,?_⟩
       refine⟨_,j6.G6 ty9 (.t a8) a8,?_⟩
       refine⟨_,j6.o8 hG (b0w _) (.cons (.t a8) .nil) a8,?_⟩
       refine⟨_,j6.A9 j3.l4 a94 a8 (.t a8) a8,?_⟩
       show D0 _ _ _ _ _ [_,_] ((100,_)::(99,_)::(98,_)::(97,_)::(96,_)::(95,_)::_) _
       refine .q 9 hG ?_
       refine .go 115 a8 (.t a8) (fun hg118 => .a14 X4 (by decide) a8 (by kernel_rfl) (.q a8 hg118) (.q a8 hg118) a8) ?_
       refine .q 4 hG ?_
       refine .e1 a8 a8 ?_
       refine congrArg AV.v ?_
       unfold y5
       (repeat (first|rw [if_pos (by omega)]|rw [if_neg (by omega)]))
       (try first|rfl|(rw [show G5 p.Kind=G5 1 by rw [hc10],a1X])|(rw [show G5 p.Kind=G5 2 by rw [hc18],a1Y])|(rw [show G5 p.Kind=G5 3 by rw [hc31],a1Z]))
      ·refine .q 6 hG ⟨fun hc101 => ?_,fun hc101 => ?_⟩
       ·refine .D7 [j0,j1] (by kernel_rfl) 13 [[],[(103,0)],[],[(105,2)],[(106,3)],[(107,4)],[],[(109,6)],[(110,7)],[(108,5),(111,8)],[],[(113,10),(104,1)],[(112,9)]] [11] a8 (by kernel_rfl) a8 (by kernel_rfl) (by decide) ?_
        refine⟨_,fun H=>j6.A7 j3.l5 (fun x=>x.Number) a8f a8 (fun _=>a8) (.t a8) a8,?_⟩
        refine⟨_,fun H=>j6.G6 P5 (.t a8) a8,?_⟩
        refine⟨_,fun H=>j6.A7 j3.l5 (fun x=>x.Number) a8f a8 (fun _=>a8) (.t a8) a8,?_⟩
        refine⟨_,fun H=>j6.G6 P5 (.t a8) a8,?_⟩
        refine⟨_,fun H=>j6.geq (.t a8) (.i a8) a8,?_⟩
        refine⟨_,fun H=>j6.move (.t a8) a8,?_⟩
        refine⟨_,fun H=>⟨_,_,a8,a8,fun hg109=>j6.A7 j3.l5 (fun x=>x.Number) a8f a8 (fun _=>a8) (.t a8) a8⟩,?_⟩
        refine⟨_,fun H=>⟨_,_,a8,a8,fun hg110=>j6.G6 P5 (.q a8 hg110) a8⟩,?_⟩
        refine⟨_,fun H=>⟨_,_,a8,a8,fun hg111=>j6.leq (.q a8 hg111) (.i a8) a8⟩,?_⟩
        refine⟨_,fun H=>j6.T5 (.t a8) (fun hp=>(.q a8 hp)) a8,?_⟩
        refine⟨_,fun H=>j6.A9 j3.l5 a8f a8 (.t a8) a8,?_⟩
        refine .inl ?_
        refine⟨_,fun H=>j6.assign (.t a8) a8,?_⟩
        refine⟨⟨([],j2 [_,c8]),a8⟩,?_⟩
        refine A0.stF (fun y x => { x with Number:=y }) P5 (.t rfl) (.t rfl) .z (fun _ _=>rfl) ?_
        refine⟨⟨([],j2 [_,c8]),a8⟩,?_⟩
        show D0 _ _ _ _ _ [] ((4,_)::(113,_)::(112,_)::(111,_)::(110,_)::(109,_)::(108,_)::(107,_)::(106,_)::(105,_)::(104,_)::(103,_)::_) _
        refine .q 7 hG ?_
        refine .go 115 a8 (.t a8) (fun hg118 => .a14 X4 (by decide) a8 (by kernel_rfl) (.q a8 hg118) (.q a8 hg118) a8) ?_
        refine .q 4 hG ?_
        refine .e1 a8 a8 ?_
        refine congrArg AV.v ?_
        unfold y5
        (repeat (first|rw [if_pos (by omega)]|rw [if_neg (by omega)]))
        (try first|rfl|(rw [show G5 p.Kind=G5 1 by rw [hc10],a1X])|(rw [show G5 p.Kind=G5 2 by rw [hc18],a1Y])|(rw [show G5 p.Kind=G5 3 by rw [hc31],a1Z]))
       ·refine .q 7 hG ?_
        refine .go 115 a8 (.t a8) (fun hg118 => .a14 X4 (by decide) a8 (by kernel_rfl) (.q a8 hg118) (.q a8 hg118) a8) ?_
        refine .q 4 hG ?_
        refine .e1 a8 a8 ?_
        refine congrArg AV.v ?_
        unfold y5
        (repeat (first|rw [if_pos (by omega)]|rw [if_neg (by omega)]))
        (try first|rfl|(rw [show G5 p.Kind=G5 1 by rw [hc10],a1X])|(rw [show G5 p.Kind=G5 2 by rw [hc18],a1Y])|(rw [show G5 p.Kind=G5 3 by rw [hc31],a1Z]))
def u6 (p:Pred):List UInt8:=J6 p.Kind.toNat++(if p.Kind=4∨p.Kind=5 then J6 p.P1.toNat++J6 p.To.toNat else if p.Kind=6 then J6 p.Name.l.length++p.Name.l else if p.Kind=7 then J6 p.Number.toNat else R9 p.Mask 8)
def U8 (p:Pred):List UInt8×Int:=if y5 p then (u6 p,0) else ([],5)
theorem y0 {p:Pred} (h:y5 p=true):U8 p=(u6 p,0):=by unfold U8;rw [if_pos h]
theorem B2 {p:Pred} (h:¬y5 p=true):U8 p=([],5):=by unfold U8;rw [if_neg h]
structure b8r (p:Pred):Prop where
 kind:1≤p.Kind∧p.Kind≤7
 from_:0≤p.P1∧p.P1≤67108864
 to:0≤p.To∧p.To≤67108864
 name:p.Name.l.length≤16
 num:0≤p.Number∧p.Number≤1000000
theorem O1 {p:Pred} (h:y5 p=true):b8r p:=by
 unfold y5 at h
 obtain⟨k,m,f,t,n,u⟩:=p
 dsimp only at h
 split at h
 ·next hk=>simp only [Bool.and_eq_true,decide_eq_true_eq,j3.mk.injEq] at h;obtain⟨_,_,_,rfl,rfl,rfl,rfl⟩:=h;exact⟨by dsimp only;omega,by simp,by simp,by simp,by simp⟩
 ·split at h
  ·next hk=>simp only [Bool.and_eq_true,decide_eq_true_eq,j3.mk.injEq] at h;obtain⟨h1,_,_,_,_,rfl,rfl⟩:=h;exact⟨by dsimp only;omega,by dsimp only;omega,by dsimp only;omega,by simp,by simp⟩
  ·split at h
   ·next hk=>simp only [Bool.and_eq_true,decide_eq_true_eq,j3.mk.injEq] at h;obtain⟨h1,_,_,_,_,rfl,rfl⟩:=h;exact⟨by dsimp only;omega,by dsimp only;omega,by dsimp only;omega,by simp,by simp⟩
   ·split at h
    ·next hk =>
     simp only [Bool.and_eq_true,decide_eq_true_eq,j3.mk.injEq] at h;obtain⟨h1,_,_,rfl,rfl,_,rfl⟩:=h
     unfold Q3 at h1;simp only [Bool.and_eq_true,decide_eq_true_eq] at h1
     exact⟨by dsimp only;omega,by simp,by simp,by dsimp only;omega,by simp⟩
    ·split at h
     ·next hk=>simp only [Bool.and_eq_true,decide_eq_true_eq,j3.mk.injEq] at h;obtain⟨h1,_,_,rfl,rfl,rfl,_⟩:=h;exact⟨by dsimp only;omega,by simp,by simp,by simp,by dsimp only;omega⟩
     ·cases h
theorem H5 {p:Pred} (h:b8r p):(u6 p).length≤24:=by
 have l1:=B1 (n:=p.Kind.toNat) (by have:=h.kind;omega)
 have l2:=B1 (n:=p.P1.toNat) (by have:=h.from_;omega)
 have l3:=B1 (n:=p.To.toNat) (by have:=h.to;omega)
 have l4:=B1 (n:=p.Name.l.length) (by have:=h.name;omega)
 have l5:=B1 (n:=p.Number.toNat) (by have:=h.num;omega)
 have l6:=h.name
 have l0:(J6 p.Kind.toNat).length≤1:=a4H 0 _ (by have:=h.kind;omega)
 have l7:(J6 p.Name.l.length).length≤1:=a4H 0 _ (by omega)
 unfold u6
 rw [List.length_append]
 split
 ·rw [List.length_append];omega
 ·split
  ·rw [List.length_append];omega
  ·split
   ·omega
   ·rw [D9];omega
def numsL (l:List Int):List UInt8:=(l.map fun n=>J6 n.toNat).flatten
theorem a5K (l:List Int) (k:Nat) (h:k < l.length):numsL (l.take (k+1))=numsL (l.take k)++J6 (l[k]).toNat:=by
 unfold numsL;rw [List.take_succ_eq_append_getElem h,List.map_append,List.flatten_append];simp
theorem a1z (l:List Int) (h:∀ n∈l,0≤n∧n≤281474976710656):(numsL l).length≤7*l.length:=by
 induction l with
 | nil=>simp [numsL]
 | cons n l ih =>
  have h1:=B1 (n:=n.toNat) (by have:=h n (by simp);omega)
  have h2:=ih fun m hm=>h m (by simp [hm])
  unfold numsL at h2 ⊢
  rw [List.map_cons,List.flatten_cons,List.length_append,List.length_cons];omega
theorem a6l (b:List UInt8) (l:List Int) (hb:b.length≤600000) (hl:0 < l.length) (hl2:l.length≤1000) (h:∀ n∈l,0≤n∧n≤281474976710656):E4 gl prog 194 [.v b,.v l] [] (fun r Hs=>∃ u,r = .raw u∧Hs = [.own 5 u (b++numsL l)]):=by
 refine E4.P8 func194 rfl (by kernel_rfl) 21 rfl rfl _ rfl _ rfl fun C hC hG => ?_
 refine .q 6 hG ?_
 refine .name 0 a8 fun w0=>(.C0 5 .z ?_)
 refine .q 6 hG ?_
 refine .D8 (α:=Nat×Value×List UInt8×Bool) [(7,_),(8,_)] (fun x R=>(0,.raw x.2.1)::(9,.v (x.1:Int))::R) (fun x => [(true,.usr x.2.1 (OF.mk 5 x.2.2.1 x.2.2.2))]) (fun x=>x.1≤l.length∧x.2.2.1=b++numsL (l.take x.1)∧(0 < x.1→x.2.2.2=true)) (fun x=>l.length - x.1) ((0,w0,b,false)) (.c2 a8 a8 (.nil _)) ?_ (.c2 a8 a8 (.c2 a8 a8 (.nil _))) (a8) fun x hF => ?_
 ·exact⟨Nat.zero_le _,by simp [numsL],by simp⟩
 obtain⟨k,w,c,o⟩:=x
 obtain⟨h1,h2,h3⟩:=hF
 dsimp only at h1 h2 h3 ⊢
 have hlen9:=a1z (l.take k) (fun n hn=>h n (List.mem_of_mem_take hn))
 have hc9:c.length≤607000:=(by rw [h2,List.length_append];have:(l.take k).length≤l.length:=(by simp;omega);omega)
 refine .q 6 hG ⟨fun hc10 => ?_,fun hc10 => ?_⟩
 ·refine .q 5 hG ?_
  refine .ix (by omega) (by omega) ?_
  refine .q 3 hG ?_
  refine .c1x hC .z (.as 0 a8 .z (.drop ?_))
  refine .q 3 hG ?_
  refine .k0 hG (a1x _ _ (by simp<;>omega) (h _ (List.getElem_mem _)).1 (h _ (List.getElem_mem _)).2) fun r16 Hs16 hr16 => ?_
  obtain⟨u16,rfl,rfl⟩:=hr16
  show D0 _ _ _ _ _ _ _ ((true,_)::_)
  refine .q 5 hG ?_
  refine .c1v .z ?_
  refine .q 1 hG ?_
  refine .ad (by omega) (by omega) ?_
  refine .q 2 hG ?_
  refine⟨(k+1,u16,_,true),.c2 rfl rfl (.c2 rfl rfl (.nil _)),rfl,?_,by dsimp only;omega⟩
  exact⟨by dsimp only;omega,by dsimp only;rw [a5K l k (by omega),←List.append_assoc,←h2];rfl,fun _=>rfl⟩
 ·refine .q 2 hG ?_
  refine .c1w (h3 (by omega)) .z ?_
  refine .q 5 hG ?_
  refine .e1 a8 a8 ?_
  refine⟨_,.cons .z (.nil),?_⟩
  exact⟨_,rfl,by rw [h2,List.take_of_length_le (by omega)]⟩
theorem a3Z (b:List UInt8) (l:List Int) (hb:b.length≤600000) (hl:0 < l.length) (hl2:l.length≤1000) (h:∀ n∈l,0≤n∧n≤281474976710656):p4 gl prog 194 [.v b,.v l] (fun r=>r = .v (b++numsL l)):=(a6l b l hb hl hl2 h).b0q
theorem a6V (p:Pred):p4 gl prog 159 [.v p] (fun r=>r = .t2 (.v (U8 p).1) (.v (U8 p).2)):=by
 refine p4.jn func159 (by kernel_rfl) 54 rfl fun C hC hG => ?_
 refine .q 3 hG fun b1 => ?_
 refine .q 5 hG ?_
 refine .y6 hC .z (.L6 1 a8 .z ?_)
 refine .q 2 hG ?_
 refine .k hG (a1W _) ?_
 refine .q 2 hG ?_
 refine .cond (.t a8) (fun hc8 => ?_) (fun hc8 => ?_)
 ·refine .q 6 hG ?_
  refine .e2 a8 a8 a8 ?_
  first|(exfalso;omega)|(rw [B2 (by simpa using hc8)])|(rw [y0 hpo];unfold u6;(repeat (first|rw [if_pos (by omega)]|rw [if_neg (by omega)]));(try simp [numsL]);done)|(obtain rfl:j=8:=(by omega);rw [y0 hpo];unfold u6;(repeat (first|rw [if_pos (by omega)]|rw [if_neg (by omega)]));simp [numsL])
 ·refine .q 2 hG ?_
  have hpo:y5 p=true:=by simpa using hc8
  have hp:=O1 hpo
  have hp4:=hp.name
  have hk1:(numsL [p.Kind]).length≤7:=a1z [p.Kind] (by have:=hp.kind;simp;omega)
  refine .q 3 hG ?_
  refine .bs a8 (by decide) fun b11=>(.u0 hC .z (.as 11 a8 .z (.h (.a6a hG (a6l _ _ (by decide) (by simp) (by simp) (by have:=hp.kind;simp;omega)) (.cons .b3q (.cons (.t a8) .nil)) fun r12 Hs12 hr12 => ?_))))
  obtain⟨u12,rfl,rfl⟩:=hr12
  show D0 _ _ _ _ _ _ _ ((true,_)::_)
  refine .q 16 hG ⟨fun hc15 => ?_,fun hc15 => ?_⟩
  ·refine .q 2 hG ⟨fun hc15 => ?_,fun hc15 => ?_⟩
   ·refine .q 1 hG ?_
    refine .u0 hC .z (.as 4 a8 .z ?_)
    refine .q 6 hG ?_
    refine .bs a8 (by decide) fun b23=>(.u0 hC .z (.as 23 a8 .z (.p (.o8 hG (a3Z _ _ (by simp;omega) (by simp) (by simp) (by have:=hp.from_;have:=hp.to;simp;omega)) (.cons (.t a8) (.cons (.t a8) .nil)) ?_))))
    refine .q 4 hG ?_
    refine .e2 a8 a8 a8 ?_
    first|(exfalso;omega)|(rw [B2 (by simpa using hc8)])|(rw [y0 hpo];unfold u6;(repeat (first|rw [if_pos (by omega)]|rw [if_neg (by omega)]));(try simp [numsL]);done)|(obtain rfl:j=8:=(by omega);rw [y0 hpo];unfold u6;(repeat (first|rw [if_pos (by omega)]|rw [if_neg (by omega)]));simp [numsL])
   ·refine .q 6 hG ⟨fun hc25 => ?_,fun hc25 => ?_⟩
    ·refine .q 1 hG ?_
     refine .u0 hC .z (.as 4 a8 .z ?_)
     refine .q 4 hG ?_
     refine .h (.W9 underlying9 underlying86 underlying5 (.t a8) fun w30=>(.u0 hC .z (.as 30 a8 .z (.p (.o8 hG (b0G _ _ (by omega) (by omega)) (.cons (.t a8) (.cons (.t a8) .nil)) ?_)))))
     refine .q 6 hG ?_
     refine .e2 a8 a8 a8 ?_
     first|(exfalso;omega)|(rw [B2 (by simpa using hc8)])|(rw [y0 hpo];unfold u6;(repeat (first|rw [if_pos (by omega)]|rw [if_neg (by omega)]));(try simp [numsL]);done)|(obtain rfl:j=8:=(by omega);rw [y0 hpo];unfold u6;(repeat (first|rw [if_pos (by omega)]|rw [if_neg (by omega)]));simp [numsL])
    ·refine .q 6 hG ⟨fun hc34 => ?_,fun hc34 => ?_⟩
     ·refine .q 1 hG ?_
      refine .u0 hC .z (.as 4 a8 .z ?_)
      refine .q 4 hG ?_
      refine .bs a8 (by decide) fun b39=>(.u0 hC .z (.as 39 a8 .z (.p (.o8 hG (a3Z _ _ (by simp;omega) (by simp) (by simp) (by have:=hp.num;simp;omega)) (.cons (.t a8) (.cons (.t a8) .nil)) ?_))))
      refine .q 4 hG ?_
      refine .e2 a8 a8 a8 ?_
      first|(exfalso;omega)|(rw [B2 (by simpa using hc8)])|(rw [y0 hpo];unfold u6;(repeat (first|rw [if_pos (by omega)]|rw [if_neg (by omega)]));(try simp [numsL]);done)|(obtain rfl:j=8:=(by omega);rw [y0 hpo];unfold u6;(repeat (first|rw [if_pos (by omega)]|rw [if_neg (by omega)]));simp [numsL])
     ·refine .q 7 hG ?_
      refine .D8 (α:=Nat×Value) [(1,_)] (fun x R=>(4,.raw x.2)::(5,.v (56 - 8*(x.1:Int)))::R) (fun x => [(true,.own 5 x.2 (numsL [p.Kind]++R9 p.Mask x.1)),(true,.fz (slc b11 0 1 1) (.v [p.Kind])),(true,.fz (ptr b1 0) (.p p))]) (fun x=>x.1≤8) (fun x=>8 - x.1) ((0,u12)) (.cons a8 (.nil _)) ?_ (.c2 a8 a8 (.cons a8 (.nil _))) (congrArg (fun q => [(true,D6.own _ _ q),_,_]) (by simp [R9])) fun x hF => ?_
      ·simp
      obtain⟨j,w⟩:=x
      dsimp only at hF ⊢
      have hk2:=D9 p.Mask j
      refine .q 7 hG ⟨fun hc42 => ?_,fun hc42 => ?_⟩
      ·refine .q 8 hG ?_
       refine .p (.a6U (.t a8) (.t a8) (by omega) (by omega) (.p (.a2p underlying77 underlying5 (.t a8) ?_)))
       refine .bs a8 (by decide) fun b51 => ?_
       refine .ap (by omega) (by omega) fun w52 => ?_
       refine .q 1 hG ?_
       refine .drop ?_
       refine .q 3 hG ?_
       refine .sb (by omega) (by omega) ?_
       refine .q 2 hG ?_
       refine⟨(j+1,w52),.cons rfl (.cons (congrArg (fun q=>some (AV.v q)) (by dsimp only;omega)) (.cons rfl (.nil _))),congrArg (fun q => [(true,D6.own _ _ q),_,_]) (by dsimp only;rw [a1s,show(56 - 8*(j:Int)).toNat=56 - 8*j by omega];try simp),?_,by dsimp only;omega⟩
       dsimp only;omega
      ·refine .q 2 hG ?_
       refine .u0 hC .z (.as 4 a8 .z ?_)
       refine .q 6 hG ?_
       refine .e2 a8 a8 a8 ?_
       first|(exfalso;omega)|(rw [B2 (by simpa using hc8)])|(rw [y0 hpo];unfold u6;(repeat (first|rw [if_pos (by omega)]|rw [if_neg (by omega)]));(try simp [numsL]);done)|(obtain rfl:j=8:=(by omega);rw [y0 hpo];unfold u6;(repeat (first|rw [if_pos (by omega)]|rw [if_neg (by omega)]));simp [numsL])
  ·refine .q 5 hG ⟨fun hc15 => ?_,fun hc15 => ?_⟩
   ·refine .q 1 hG ?_
    refine .u0 hC .z (.as 4 a8 .z ?_)
    refine .q 6 hG ?_
    refine .bs a8 (by decide) fun b23=>(.u0 hC .z (.as 23 a8 .z (.p (.o8 hG (a3Z _ _ (by simp;omega) (by simp) (by simp) (by have:=hp.from_;have:=hp.to;simp;omega)) (.cons (.t a8) (.cons (.t a8) .nil)) ?_))))
    refine .q 4 hG ?_
    refine .e2 a8 a8 a8 ?_
    first|(exfalso;omega)|(rw [B2 (by simpa using hc8)])|(rw [y0 hpo];unfold u6;(repeat (first|rw [if_pos (by omega)]|rw [if_neg (by omega)]));(try simp [numsL]);done)|(obtain rfl:j=8:=(by omega);rw [y0 hpo];unfold u6;(repeat (first|rw [if_pos (by omega)]|rw [if_neg (by omega)]));simp [numsL])
   ·refine .q 6 hG ⟨fun hc25 => ?_,fun hc25 => ?_⟩
    ·refine .q 1 hG ?_
     refine .u0 hC .z (.as 4 a8 .z ?_)
     refine .q 4 hG ?_
     refine .h (.W9 underlying9 underlying86 underlying5 (.t a8) fun w30=>(.u0 hC .z (.as 30 a8 .z (.p (.o8 hG (b0G _ _ (by simp<;>omega) (by omega)) (.cons (.t a8) (.cons (.t a8) .nil)) ?_)))))
     refine .q 6 hG ?_
     refine .e2 a8 a8 a8 ?_
     first|(exfalso;omega)|(rw [B2 (by simpa using hc8)])|(rw [y0 hpo];unfold u6;(repeat (first|rw [if_pos (by omega)]|rw [if_neg (by omega)]));(try simp [numsL]);done)|(obtain rfl:j=8:=(by omega);rw [y0 hpo];unfold u6;(repeat (first|rw [if_pos (by omega)]|rw [if_neg (by omega)]));simp [numsL])
    ·refine .q 6 hG ⟨fun hc34 => ?_,fun hc34 => ?_⟩
     ·refine .q 1 hG ?_
      refine .u0 hC .z (.as 4 a8 .z ?_)
      refine .q 4 hG ?_
      refine .bs a8 (by decide) fun b39=>(.u0 hC .z (.as 39 a8 .z (.p (.o8 hG (a3Z _ _ (by simp;omega) (by simp) (by simp) (by have:=hp.num;simp;omega)) (.cons (.t a8) (.cons (.t a8) .nil)) ?_))))
      refine .q 4 hG ?_
      refine .e2 a8 a8 a8 ?_
      first|(exfalso;omega)|(rw [B2 (by simpa using hc8)])|(rw [y0 hpo];unfold u6;(repeat (first|rw [if_pos (by omega)]|rw [if_neg (by omega)]));(try simp [numsL]);done)|(obtain rfl:j=8:=(by omega);rw [y0 hpo];unfold u6;(repeat (first|rw [if_pos (by omega)]|rw [if_neg (by omega)]));simp [numsL])
     ·refine .q 7 hG ?_
      refine .D8 (α:=Nat×Value) [(1,_)] (fun x R=>(4,.raw x.2)::(5,.v (56 - 8*(x.1:Int)))::R) (fun x => [(true,.own 5 x.2 (numsL [p.Kind]++R9 p.Mask x.1)),(true,.fz (slc b11 0 1 1) (.v [p.Kind])),(true,.fz (ptr b1 0) (.p p))]) (fun x=>x.1≤8) (fun x=>8 - x.1) ((0,u12)) (.cons a8 (.nil _)) ?_ (.c2 a8 a8 (.cons a8 (.nil _))) (congrArg (fun q => [(true,D6.own _ _ q),_,_]) (by simp [R9])) fun x hF => ?_
      ·simp
      obtain⟨j,w⟩:=x
      dsimp only at hF ⊢
      have hk2:=D9 p.Mask j
      refine .q 7 hG ⟨fun hc42 => ?_,fun hc42 => ?_⟩
      ·refine .q 8 hG ?_
       refine .p (.a6U (.t a8) (.t a8) (by omega) (by omega) (.p (.a2p underlying77 underlying5 (.t a8) ?_)))
       refine .bs a8 (by decide) fun b51 => ?_
       refine .ap (by simp<;>omega) (by simp<;>omega) fun w52 => ?_
       refine .q 1 hG ?_
       refine .drop ?_
       refine .q 3 hG ?_
       refine .sb (by omega) (by omega) ?_
       refine .q 2 hG ?_
       refine⟨(j+1,w52),.cons rfl (.cons (congrArg (fun q=>some (AV.v q)) (by dsimp only;omega)) (.cons rfl (.nil _))),congrArg (fun q => [(true,D6.own _ _ q),_,_]) (by dsimp only;rw [a1s,show(56 - 8*(j:Int)).toNat=56 - 8*j by omega];try simp),?_,by dsimp only;omega⟩
       dsimp only;omega
      ·refine .q 2 hG ?_
       refine .u0 hC .z (.as 4 a8 .z ?_)
       refine .q 6 hG ?_
       refine .e2 a8 a8 a8 ?_
       first|(exfalso;omega)|(rw [B2 (by simpa using hc8)])|(rw [y0 hpo];unfold u6;(repeat (first|rw [if_pos (by omega)]|rw [if_neg (by omega)]));(try simp [numsL]);done)|(obtain rfl:j=8:=(by omega);rw [y0 hpo];unfold u6;(repeat (first|rw [if_pos (by omega)]|rw [if_neg (by omega)]));simp [numsL])
theorem a5L (p:Pred):p4 gl prog 169 [.v p] (fun r=>r = .t2 (.v (U8 p).1) (.v (U8 p).2)):=by
 refine p4.jn func169 (by kernel_rfl) 50 rfl fun C hC hG => ?_
 refine .q 3 hG fun b1 => ?_
 refine .q 5 hG ?_
 refine .y6 hC .z (.L6 1 a8 .z ?_)
 refine .q 2 hG ?_
 refine .k hG (a0f _) ?_
 refine .q 2 hG ?_
 refine .cond (.t a8) (fun hc7 => ?_) (fun hc7 => ?_)
 ·refine .q 6 hG ?_
  refine .e2 a8 a8 a8 ?_
  first|(exfalso;omega)|(rw [B2 (by simpa using hc7)])|(rw [y0 hpo];unfold u6;(repeat (first|rw [if_pos (by omega)]|rw [if_neg (by omega)]));(try simp);done)
 ·refine .q 2 hG ?_
  have hpo:y5 p=true:=by simpa using hc7
  have hp:=O1 hpo
  have hpk:=hp.kind
  refine .q 3 hG ?_
  refine .k0 hG (a2U _ (by omega) (by omega)) fun r10 Hs10 hr10 => ?_
  obtain⟨u10,rfl,rfl⟩:=hr10
  show D0 _ _ _ _ _ _ _ ((true,_)::_)
  refine .q 4 hG ?_
  have hk2:=D9 p.Mask 8
  have hp1:=hp.from_
  have hp2:=hp.to
  have hp3:=hp.num
  have hp4:=hp.name
  have hk1:=B1 (n:=p.Kind.toNat) (by omega)
  have hk3:=B1 (n:=p.P1.toNat) (by omega)
  have hk4:=B1 (n:=p.To.toNat) (by omega)
  have hk5:=B1 (n:=p.Number.toNat) (by omega)
  have hk6:=B1 (n:=p.Name.l.length) (by omega)
  refine .q 12 hG ⟨fun hc13 => ?_,fun hc13 => ?_⟩
  ·refine .q 2 hG ⟨fun hc13 => ?_,fun hc13 => ?_⟩
   ·refine .q 4 hG ?_
    refine .k hG ((a2A _).b0q) ?_
    refine .ap (by omega) (by omega) fun w21 => ?_
    refine .q 3 hG ?_
    refine .u0 hC .z (.as 4 a8 .z ?_)
    refine .q 6 hG ?_
    refine .e2 a8 a8 a8 ?_
    first|(exfalso;omega)|(rw [B2 (by simpa using hc7)])|(rw [y0 hpo];unfold u6;(repeat (first|rw [if_pos (by omega)]|rw [if_neg (by omega)]));(try simp);done)
   ·refine .q 7 hG ⟨fun hc22 => ?_,fun hc22 => ?_⟩
    ·refine .q 2 hG ⟨fun hc22 => ?_,fun hc22 => ?_⟩
     ·refine .D7 [j0,j1] (by kernel_rfl) 10 [[],[],[(26,1)],[(27,2)],[(25,0),(28,3)],[],[(30,5)],[(31,6)],[(29,4),(32,7)],[(33,8)]] [0,4,8,9] a8 (by kernel_rfl) a8 (by kernel_rfl) (by decide) (.inl ?_)
      refine⟨_,fun H=>j6.A7 j3.l2 (fun x=>x.P1) M4 a8 (fun _=>a8) (.t a8) a8,?_⟩
      refine⟨_,fun H=>j6.G6 P5 (.t a8) a8,?_⟩
      refine⟨_,fun H=>j6.o8 hG (F3 _ (by omega) (by omega)) (.cons (.t a8) .nil) a8,?_⟩
      refine .inl ?_
      refine⟨_,fun H=>j6.A7 j3.l3 (fun x=>x.To) M5 a8 (fun _=>a8) (.t a8) a8,?_⟩
      refine⟨_,fun H=>j6.G6 P5 (.t a8) a8,?_⟩
      refine⟨_,fun H=>j6.o8 hG (F3 _ (by omega) (by omega)) (.cons (.t a8) .nil) a8,?_⟩
      refine .inl (.inl ?_)
      refine⟨⟨([],j2 [_,c8]),a8⟩,?_⟩
      refine A0.ofP (j6.move (.t rfl) ?_)
      refine⟨⟨([],j2 [_,c8]),a8⟩,?_⟩
      refine A0.append P3 (.inl ⟨_,underlying86⟩) rfl .z (.v (.t rfl)) (by omega) (by omega) (fun w29 => ?_) rfl
      refine⟨⟨([],j2 [_,c8]),a8⟩,?_⟩
      refine A0.append P3 (.inl ⟨_,underlying86⟩) rfl .z (.v (.t rfl)) (by omega) (by omega) (fun w33 => ?_) rfl
      refine⟨⟨([],j2 [_,c8]),a8⟩,?_⟩
      refine A0.ofP (j6.assign (.t rfl) ?_)
      refine⟨⟨([],j2 [_,c8]),a8⟩,?_⟩
      show D0 _ _ _ _ _ [] ((4,_)::(33,_)::(32,_)::(31,_)::(30,_)::(29,_)::(28,_)::(27,_)::(26,_)::(25,_)::_) _
      refine .q 2 hG ?_
      refine .u0 hC .z (.as 4 a8 .z ?_)
      refine .q 6 hG ?_
      refine .e2 a8 a8 a8 ?_
      first|(exfalso;omega)|(rw [B2 (by simpa using hc7)])|(rw [y0 hpo];unfold u6;(repeat (first|rw [if_pos (by omega)]|rw [if_neg (by omega)]));(try simp);done)
     ·refine .q 6 hG ⟨fun hc34 => ?_,fun hc34 => ?_⟩
      ·refine .q 4 hG ?_
       refine .h (.W9 underlying9 underlying86 underlying5 (.t a8) fun w39=>(.u0 hC .z (.as 39 a8 .z ?_)))
       refine .k hG (a08 _ (by omega)) ?_
       refine .ap (by omega) (by omega) fun w41 => ?_
       refine .q 3 hG ?_
       refine .u0 hC .z1 (.as 4 a8 .z1 ?_)
       refine .q 6 hG ?_
       refine .e2 a8 a8 a8 ?_
       first|(exfalso;omega)|(rw [B2 (by simpa using hc7)])|(rw [y0 hpo];unfold u6;(repeat (first|rw [if_pos (by omega)]|rw [if_neg (by omega)]));(try simp);done)
      ·refine .q 6 hG ⟨fun hc42 => ?_,fun hc42 => ?_⟩
       ·refine .q 4 hG ?_
        refine .k hG (F3 _ (by omega) (by omega)) ?_
        refine .ap (by omega) (by omega) fun w48 => ?_
        refine .q 3 hG ?_
        refine .u0 hC .z (.as 4 a8 .z ?_)
        refine .q 6 hG ?_
        refine .e2 a8 a8 a8 ?_
        first|(exfalso;omega)|(rw [B2 (by simpa using hc7)])|(rw [y0 hpo];unfold u6;(repeat (first|rw [if_pos (by omega)]|rw [if_neg (by omega)]));(try simp);done)
       ·refine .q 2 hG ?_
        refine .u0 hC .z (.as 4 a8 .z ?_)
        refine .q 6 hG ?_
        refine .e2 a8 a8 a8 ?_
        first|(exfalso;omega)|(rw [B2 (by simpa using hc7)])|(rw [y0 hpo];unfold u6;(repeat (first|rw [if_pos (by omega)]|rw [if_neg (by omega)]));(try simp);done)
    ·refine .q 5 hG ⟨fun hc22 => ?_,fun hc22 => ?_⟩
     ·refine .D7 [j0,j1] (by kernel_rfl) 10 [[],[],[(26,1)],[(27,2)],[(25,0),(28,3)],[],[(30,5)],[(31,6)],[(29,4),(32,7)],[(33,8)]] [0,4,8,9] a8 (by kernel_rfl) a8 (by kernel_rfl) (by decide) (.inl ?_)
      refine⟨_,fun H=>j6.A7 j3.l2 (fun x=>x.P1) M4 a8 (fun _=>a8) (.t a8) a8,?_⟩
      refine⟨_,fun H=>j6.G6 P5 (.t a8) a8,?_⟩
      refine⟨_,fun H=>j6.o8 hG (F3 _ (by omega) (by omega)) (.cons (.t a8) .nil) a8,?_⟩
      refine .inl ?_
      refine⟨_,fun H=>j6.A7 j3.l3 (fun x=>x.To) M5 a8 (fun _=>a8) (.t a8) a8,?_⟩
      refine⟨_,fun H=>j6.G6 P5 (.t a8) a8,?_⟩
      refine⟨_,fun H=>j6.o8 hG (F3 _ (by omega) (by omega)) (.cons (.t a8) .nil) a8,?_⟩
      refine .inl (.inl ?_)
      refine⟨⟨([],j2 [_,c8]),a8⟩,?_⟩
      refine A0.ofP (j6.move (.t rfl) ?_)
      refine⟨⟨([],j2 [_,c8]),a8⟩,?_⟩
      refine A0.append P3 (.inl ⟨_,underlying86⟩) rfl .z (.v (.t rfl)) (by omega) (by omega) (fun w29 => ?_) rfl
      refine⟨⟨([],j2 [_,c8]),a8⟩,?_⟩
      refine A0.append P3 (.inl ⟨_,underlying86⟩) rfl .z (.v (.t rfl)) (by omega) (by omega) (fun w33 => ?_) rfl
      refine⟨⟨([],j2 [_,c8]),a8⟩,?_⟩
      refine A0.ofP (j6.assign (.t rfl) ?_)
      refine⟨⟨([],j2 [_,c8]),a8⟩,?_⟩
      show D0 _ _ _ _ _ [] ((4,_)::(33,_)::(32,_)::(31,_)::(30,_)::(29,_)::(28,_)::(27,_)::(26,_)::(25,_)::_) _
      refine .q 2 hG ?_
      refine .u0 hC .z (.as 4 a8 .z ?_)
      refine .q 6 hG ?_
      refine .e2 a8 a8 a8 ?_
      first|(exfalso;omega)|(rw [B2 (by simpa using hc7)])|(rw [y0 hpo];unfold u6;(repeat (first|rw [if_pos (by omega)]|rw [if_neg (by omega)]));(try simp);done)
     ·refine .q 6 hG ⟨fun hc34 => ?_,fun hc34 => ?_⟩
      ·refine .q 4 hG ?_
       refine .h (.W9 underlying9 underlying86 underlying5 (.t a8) fun w39=>(.u0 hC .z (.as 39 a8 .z ?_)))
       refine .k hG (a08 _ (by omega)) ?_
       refine .ap (by omega) (by omega) fun w41 => ?_
       refine .q 3 hG ?_
       refine .u0 hC .z1 (.as 4 a8 .z1 ?_)
       refine .q 6 hG ?_
       refine .e2 a8 a8 a8 ?_
       first|(exfalso;omega)|(rw [B2 (by simpa using hc7)])|(rw [y0 hpo];unfold u6;(repeat (first|rw [if_pos (by omega)]|rw [if_neg (by omega)]));(try simp);done)
      ·refine .q 6 hG ⟨fun hc42 => ?_,fun hc42 => ?_⟩
       ·refine .q 4 hG ?_
        refine .k hG (F3 _ (by omega) (by omega)) ?_
        refine .ap (by omega) (by omega) fun w48 => ?_
        refine .q 3 hG ?_
        refine .u0 hC .z (.as 4 a8 .z ?_)
        refine .q 6 hG ?_
        refine .e2 a8 a8 a8 ?_
        first|(exfalso;omega)|(rw [B2 (by simpa using hc7)])|(rw [y0 hpo];unfold u6;(repeat (first|rw [if_pos (by omega)]|rw [if_neg (by omega)]));(try simp);done)
       ·refine .q 2 hG ?_
        refine .u0 hC .z (.as 4 a8 .z ?_)
        refine .q 6 hG ?_
        refine .e2 a8 a8 a8 ?_
        first|(exfalso;omega)|(rw [B2 (by simpa using hc7)])|(rw [y0 hpo];unfold u6;(repeat (first|rw [if_pos (by omega)]|rw [if_neg (by omega)]));(try simp);done)
  ·refine .q 6 hG ⟨fun hc13 => ?_,fun hc13 => ?_⟩
   ·refine .q 2 hG ⟨fun hc13 => ?_,fun hc13 => ?_⟩
    ·refine .q 4 hG ?_
     refine .k hG ((a2A _).b0q) ?_
     refine .ap (by omega) (by omega) fun w21 => ?_
     refine .q 3 hG ?_
     refine .u0 hC .z (.as 4 a8 .z ?_)
     refine .q 6 hG ?_
     refine .e2 a8 a8 a8 ?_
     first|(exfalso;omega)|(rw [B2 (by simpa using hc7)])|(rw [y0 hpo];unfold u6;(repeat (first|rw [if_pos (by omega)]|rw [if_neg (by omega)]));(try simp);done)
    ·refine .q 7 hG ⟨fun hc22 => ?_,fun hc22 => ?_⟩
     ·refine .q 2 hG ⟨fun hc22 => ?_,fun hc22 => ?_⟩
      ·refine .D7 [j0,j1] (by kernel_rfl) 10 [[],[],[(26,1)],[(27,2)],[(25,0),(28,3)],[],[(30,5)],[(31,6)],[(29,4),(32,7)],[(33,8)]] [0,4,8,9] a8 (by kernel_rfl) a8 (by kernel_rfl) (by decide) (.inl ?_)
       refine⟨_,fun H=>j6.A7 j3.l2 (fun x=>x.P1) M4 a8 (fun _=>a8) (.t a8) a8,?_⟩
       refine⟨_,fun H=>j6.G6 P5 (.t a8) a8,?_⟩
       refine⟨_,fun H=>j6.o8 hG (F3 _ (by omega) (by omega)) (.cons (.t a8) .nil) a8,?_⟩
       refine .inl ?_
       refine⟨_,fun H=>j6.A7 j3.l3 (fun x=>x.To) M5 a8 (fun _=>a8) (.t a8) a8,?_⟩
       refine⟨_,fun H=>j6.G6 P5 (.t a8) a8,?_⟩
       refine⟨_,fun H=>j6.o8 hG (F3 _ (by omega) (by omega)) (.cons (.t a8) .nil) a8,?_⟩
       refine .inl (.inl ?_)
       refine⟨⟨([],j2 [_,c8]),a8⟩,?_⟩
       refine A0.ofP (j6.move (.t rfl) ?_)
       refine⟨⟨([],j2 [_,c8]),a8⟩,?_⟩
       refine A0.append P3 (.inl ⟨_,underlying86⟩) rfl .z (.v (.t rfl)) (by omega) (by omega) (fun w29 => ?_) rfl
       refine⟨⟨([],j2 [_,c8]),a8⟩,?_⟩
       refine A0.append P3 (.inl ⟨_,underlying86⟩) rfl .z (.v (.t rfl)) (by omega) (by omega) (fun w33 => ?_) rfl
       refine⟨⟨([],j2 [_,c8]),a8⟩,?_⟩
       refine A0.ofP (j6.assign (.t rfl) ?_)
       refine⟨⟨([],j2 [_,c8]),a8⟩,?_⟩
       show D0 _ _ _ _ _ [] ((4,_)::(33,_)::(32,_)::(31,_)::(30,_)::(29,_)::(28,_)::(27,_)::(26,_)::(25,_)::_) _
       refine .q 2 hG ?_
       refine .u0 hC .z (.as 4 a8 .z ?_)
       refine .q 6 hG ?_
       refine .e2 a8 a8 a8 ?_
       first|(exfalso;omega)|(rw [B2 (by simpa using hc7)])|(rw [y0 hpo];unfold u6;(repeat (first|rw [if_pos (by omega)]|rw [if_neg (by omega)]));(try simp);done)
      ·refine .q 6 hG ⟨fun hc34 => ?_,fun hc34 => ?_⟩
       ·refine .q 4 hG ?_
        refine .h (.W9 underlying9 underlying86 underlying5 (.t a8) fun w39=>(.u0 hC .z (.as 39 a8 .z ?_)))
        refine .k hG (a08 _ (by omega)) ?_
        refine .ap (by omega) (by omega) fun w41 => ?_
        refine .q 3 hG ?_
        refine .u0 hC .z1 (.as 4 a8 .z1 ?_)
        refine .q 6 hG ?_
        refine .e2 a8 a8 a8 ?_
        first|(exfalso;omega)|(rw [B2 (by simpa using hc7)])|(rw [y0 hpo];unfold u6;(repeat (first|rw [if_pos (by omega)]|rw [if_neg (by omega)]));(try simp);done)
       ·refine .q 6 hG ⟨fun hc42 => ?_,fun hc42 => ?_⟩
        ·refine .q 4 hG ?_
         refine .k hG (F3 _ (by omega) (by omega)) ?_
         refine .ap (by omega) (by omega) fun w48 => ?_
         refine .q 3 hG ?_
         refine .u0 hC .z (.as 4 a8 .z ?_)
         refine .q 6 hG ?_
         refine .e2 a8 a8 a8 ?_
         first|(exfalso;omega)|(rw [B2 (by simpa using hc7)])|(rw [y0 hpo];unfold u6;(repeat (first|rw [if_pos (by omega)]|rw [if_neg (by omega)]));(try simp);done)
        ·refine .q 2 hG ?_
         refine .u0 hC .z (.as 4 a8 .z ?_)
         refine .q 6 hG ?_
         refine .e2 a8 a8 a8 ?_
         first|(exfalso;omega)|(rw [B2 (by simpa using hc7)])|(rw [y0 hpo];unfold u6;(repeat (first|rw [if_pos (by omega)]|rw [if_neg (by omega)]));(try simp);done)
     ·refine .q 5 hG ⟨fun hc22 => ?_,fun hc22 => ?_⟩
      ·refine .D7 [j0,j1] (by kernel_rfl) 10 [[],[],[(26,1)],[(27,2)],[(25,0),(28,3)],[],[(30,5)],[(31,6)],[(29,4),(32,7)],[(33,8)]] [0,4,8,9] a8 (by kernel_rfl) a8 (by kernel_rfl) (by decide) (.inl ?_)
       refine⟨_,fun H=>j6.A7 j3.l2 (fun x=>x.P1) M4 a8 (fun _=>a8) (.t a8) a8,?_⟩
       refine⟨_,fun H=>j6.G6 P5 (.t a8) a8,?_⟩
       refine⟨_,fun H=>j6.o8 hG (F3 _ (by omega) (by omega)) (.cons (.t a8) .nil) a8,?_⟩
       refine .inl ?_
       refine⟨_,fun H=>j6.A7 j3.l3 (fun x=>x.To) M5 a8 (fun _=>a8) (.t a8) a8,?_⟩
       refine⟨_,fun H=>j6.G6 P5 (.t a8) a8,?_⟩
       refine⟨_,fun H=>j6.o8 hG (F3 _ (by omega) (by omega)) (.cons (.t a8) .nil) a8,?_⟩
       refine .inl (.inl ?_)
       refine⟨⟨([],j2 [_,c8]),a8⟩,?_⟩
       refine A0.ofP (j6.move (.t rfl) ?_)
       refine⟨⟨([],j2 [_,c8]),a8⟩,?_⟩
       refine A0.append P3 (.inl ⟨_,underlying86⟩) rfl .z (.v (.t rfl)) (by omega) (by omega) (fun w29 => ?_) rfl
       refine⟨⟨([],j2 [_,c8]),a8⟩,?_⟩
       refine A0.append P3 (.inl ⟨_,underlying86⟩) rfl .z (.v (.t rfl)) (by omega) (by omega) (fun w33 => ?_) rfl
       refine⟨⟨([],j2 [_,c8]),a8⟩,?_⟩
       refine A0.ofP (j6.assign (.t rfl) ?_)
       refine⟨⟨([],j2 [_,c8]),a8⟩,?_⟩
       show D0 _ _ _ _ _ [] ((4,_)::(33,_)::(32,_)::(31,_)::(30,_)::(29,_)::(28,_)::(27,_)::(26,_)::(25,_)::_) _
       refine .q 2 hG ?_
       refine .u0 hC .z (.as 4 a8 .z ?_)
       refine .q 6 hG ?_
       refine .e2 a8 a8 a8 ?_
       first|(exfalso;omega)|(rw [B2 (by simpa using hc7)])|(rw [y0 hpo];unfold u6;(repeat (first|rw [if_pos (by omega)]|rw [if_neg (by omega)]));(try simp);done)
      ·refine .q 6 hG ⟨fun hc34 => ?_,fun hc34 => ?_⟩
       ·refine .q 4 hG ?_
        refine .h (.W9 underlying9 underlying86 underlying5 (.t a8) fun w39=>(.u0 hC .z (.as 39 a8 .z ?_)))
        refine .k hG (a08 _ (by omega)) ?_
        refine .ap (by omega) (by omega) fun w41 => ?_
        refine .q 3 hG ?_
        refine .u0 hC .z1 (.as 4 a8 .z1 ?_)
        refine .q 6 hG ?_
        refine .e2 a8 a8 a8 ?_
        first|(exfalso;omega)|(rw [B2 (by simpa using hc7)])|(rw [y0 hpo];unfold u6;(repeat (first|rw [if_pos (by omega)]|rw [if_neg (by omega)]));(try simp);done)
       ·refine .q 6 hG ⟨fun hc42 => ?_,fun hc42 => ?_⟩
        ·refine .q 4 hG ?_
         refine .k hG (F3 _ (by omega) (by omega)) ?_
         refine .ap (by omega) (by omega) fun w48 => ?_
         refine .q 3 hG ?_
         refine .u0 hC .z (.as 4 a8 .z ?_)
         refine .q 6 hG ?_
         refine .e2 a8 a8 a8 ?_
         first|(exfalso;omega)|(rw [B2 (by simpa using hc7)])|(rw [y0 hpo];unfold u6;(repeat (first|rw [if_pos (by omega)]|rw [if_neg (by omega)]));(try simp);done)
        ·refine .q 2 hG ?_
         refine .u0 hC .z (.as 4 a8 .z ?_)
         refine .q 6 hG ?_
         refine .e2 a8 a8 a8 ?_
         first|(exfalso;omega)|(rw [B2 (by simpa using hc7)])|(rw [y0 hpo];unfold u6;(repeat (first|rw [if_pos (by omega)]|rw [if_neg (by omega)]));(try simp);done)
   ·refine .q 5 hG ⟨fun hc13 => ?_,fun hc13 => ?_⟩
    ·refine .q 4 hG ?_
     refine .k hG ((a2A _).b0q) ?_
     refine .ap (by omega) (by omega) fun w21 => ?_
     refine .q 3 hG ?_
     refine .u0 hC .z (.as 4 a8 .z ?_)
     refine .q 6 hG ?_
     refine .e2 a8 a8 a8 ?_
     first|(exfalso;omega)|(rw [B2 (by simpa using hc7)])|(rw [y0 hpo];unfold u6;(repeat (first|rw [if_pos (by omega)]|rw [if_neg (by omega)]));(try simp);done)
    ·refine .q 7 hG ⟨fun hc22 => ?_,fun hc22 => ?_⟩
     ·refine .q 2 hG ⟨fun hc22 => ?_,fun hc22 => ?_⟩
      ·refine .D7 [j0,j1] (by kernel_rfl) 10 [[],[],[(26,1)],[(27,2)],[(25,0),(28,3)],[],[(30,5)],[(31,6)],[(29,4),(32,7)],[(33,8)]] [0,4,8,9] a8 (by kernel_rfl) a8 (by kernel_rfl) (by decide) (.inl ?_)
       refine⟨_,fun H=>j6.A7 j3.l2 (fun x=>x.P1) M4 a8 (fun _=>a8) (.t a8) a8,?_⟩
       refine⟨_,fun H=>j6.G6 P5 (.t a8) a8,?_⟩
       refine⟨_,fun H=>j6.o8 hG (F3 _ (by omega) (by omega)) (.cons (.t a8) .nil) a8,?_⟩
       refine .inl ?_
       refine⟨_,fun H=>j6.A7 j3.l3 (fun x=>x.To) M5 a8 (fun _=>a8) (.t a8) a8,?_⟩
       refine⟨_,fun H=>j6.G6 P5 (.t a8) a8,?_⟩
       refine⟨_,fun H=>j6.o8 hG (F3 _ (by omega) (by omega)) (.cons (.t a8) .nil) a8,?_⟩
       refine .inl (.inl ?_)
       refine⟨⟨([],j2 [_,c8]),a8⟩,?_⟩
       refine A0.ofP (j6.move (.t rfl) ?_)
       refine⟨⟨([],j2 [_,c8]),a8⟩,?_⟩
       refine A0.append P3 (.inl ⟨_,underlying86⟩) rfl .z (.v (.t rfl)) (by omega) (by omega) (fun w29 => ?_) rfl
       refine⟨⟨([],j2 [_,c8]),a8⟩,?_⟩
       refine A0.append P3 (.inl ⟨_,underlying86⟩) rfl .z (.v (.t rfl)) (by simp<;>omega) (by simp<;>omega) (fun w33 => ?_) rfl
       refine⟨⟨([],j2 [_,c8]),a8⟩,?_⟩
       refine A0.ofP (j6.assign (.t rfl) ?_)
       refine⟨⟨([],j2 [_,c8]),a8⟩,?_⟩
       show D0 _ _ _ _ _ [] ((4,_)::(33,_)::(32,_)::(31,_)::(30,_)::(29,_)::(28,_)::(27,_)::(26,_)::(25,_)::_) _
       refine .q 2 hG ?_
       refine .u0 hC .z (.as 4 a8 .z ?_)
       refine .q 6 hG ?_
       refine .e2 a8 a8 a8 ?_
       first|(exfalso;omega)|(rw [B2 (by simpa using hc7)])|(rw [y0 hpo];unfold u6;(repeat (first|rw [if_pos (by omega)]|rw [if_neg (by omega)]));(try simp);done)
      ·refine .q 6 hG ⟨fun hc34 => ?_,fun hc34 => ?_⟩
       ·refine .q 4 hG ?_
        refine .h (.W9 underlying9 underlying86 underlying5 (.t a8) fun w39=>(.u0 hC .z (.as 39 a8 .z ?_)))
        refine .k hG (a08 _ (by omega)) ?_
        refine .ap (by omega) (by omega) fun w41 => ?_
        refine .q 3 hG ?_
        refine .u0 hC .z1 (.as 4 a8 .z1 ?_)
        refine .q 6 hG ?_
        refine .e2 a8 a8 a8 ?_
        first|(exfalso;omega)|(rw [B2 (by simpa using hc7)])|(rw [y0 hpo];unfold u6;(repeat (first|rw [if_pos (by omega)]|rw [if_neg (by omega)]));(try simp);done)
       ·refine .q 6 hG ⟨fun hc42 => ?_,fun hc42 => ?_⟩
        ·refine .q 4 hG ?_
         refine .k hG (F3 _ (by omega) (by omega)) ?_
         refine .ap (by omega) (by omega) fun w48 => ?_
         refine .q 3 hG ?_
         refine .u0 hC .z (.as 4 a8 .z ?_)
         refine .q 6 hG ?_
         refine .e2 a8 a8 a8 ?_
         first|(exfalso;omega)|(rw [B2 (by simpa using hc7)])|(rw [y0 hpo];unfold u6;(repeat (first|rw [if_pos (by omega)]|rw [if_neg (by omega)]));(try simp);done)
        ·refine .q 2 hG ?_
         refine .u0 hC .z (.as 4 a8 .z ?_)
         refine .q 6 hG ?_
         refine .e2 a8 a8 a8 ?_
         first|(exfalso;omega)|(rw [B2 (by simpa using hc7)])|(rw [y0 hpo];unfold u6;(repeat (first|rw [if_pos (by omega)]|rw [if_neg (by omega)]));(try simp);done)
     ·refine .q 5 hG ⟨fun hc22 => ?_,fun hc22 => ?_⟩
      ·refine .D7 [j0,j1] (by kernel_rfl) 10 [[],[],[(26,1)],[(27,2)],[(25,0),(28,3)],[],[(30,5)],[(31,6)],[(29,4),(32,7)],[(33,8)]] [0,4,8,9] a8 (by kernel_rfl) a8 (by kernel_rfl) (by decide) (.inl ?_)
       refine⟨_,fun H=>j6.A7 j3.l2 (fun x=>x.P1) M4 a8 (fun _=>a8) (.t a8) a8,?_⟩
       refine⟨_,fun H=>j6.G6 P5 (.t a8) a8,?_⟩
       refine⟨_,fun H=>j6.o8 hG (F3 _ (by omega) (by omega)) (.cons (.t a8) .nil) a8,?_⟩
       refine .inl ?_
       refine⟨_,fun H=>j6.A7 j3.l3 (fun x=>x.To) M5 a8 (fun _=>a8) (.t a8) a8,?_⟩
       refine⟨_,fun H=>j6.G6 P5 (.t a8) a8,?_⟩
       refine⟨_,fun H=>j6.o8 hG (F3 _ (by omega) (by omega)) (.cons (.t a8) .nil) a8,?_⟩
       refine .inl (.inl ?_)
       refine⟨⟨([],j2 [_,c8]),a8⟩,?_⟩
       refine A0.ofP (j6.move (.t rfl) ?_)
       refine⟨⟨([],j2 [_,c8]),a8⟩,?_⟩
       refine A0.append P3 (.inl ⟨_,underlying86⟩) rfl .z (.v (.t rfl)) (by omega) (by omega) (fun w29 => ?_) rfl
       refine⟨⟨([],j2 [_,c8]),a8⟩,?_⟩
       refine A0.append P3 (.inl ⟨_,underlying86⟩) rfl .z (.v (.t rfl)) (by simp<;>omega) (by simp<;>omega) (fun w33 => ?_) rfl
       refine⟨⟨([],j2 [_,c8]),a8⟩,?_⟩
       refine A0.ofP (j6.assign (.t rfl) ?_)
       refine⟨⟨([],j2 [_,c8]),a8⟩,?_⟩
       show D0 _ _ _ _ _ [] ((4,_)::(33,_)::(32,_)::(31,_)::(30,_)::(29,_)::(28,_)::(27,_)::(26,_)::(25,_)::_) _
       refine .q 2 hG ?_
       refine .u0 hC .z (.as 4 a8 .z ?_)
       refine .q 6 hG ?_
       refine .e2 a8 a8 a8 ?_
       first|(exfalso;omega)|(rw [B2 (by simpa using hc7)])|(rw [y0 hpo];unfold u6;(repeat (first|rw [if_pos (by omega)]|rw [if_neg (by omega)]));(try simp);done)
      ·refine .q 6 hG ⟨fun hc34 => ?_,fun hc34 => ?_⟩
       ·refine .q 4 hG ?_
        refine .h (.W9 underlying9 underlying86 underlying5 (.t a8) fun w39=>(.u0 hC .z (.as 39 a8 .z ?_)))
        refine .k hG (a08 _ (by omega)) ?_
        refine .ap (by simp<;>omega) (by simp<;>omega) fun w41 => ?_
        refine .q 3 hG ?_
        refine .u0 hC .z1 (.as 4 a8 .z1 ?_)
        refine .q 6 hG ?_
        refine .e2 a8 a8 a8 ?_
        first|(exfalso;omega)|(rw [B2 (by simpa using hc7)])|(rw [y0 hpo];unfold u6;(repeat (first|rw [if_pos (by omega)]|rw [if_neg (by omega)]));(try simp);done)
       ·refine .q 6 hG ⟨fun hc42 => ?_,fun hc42 => ?_⟩
        ·refine .q 4 hG ?_
         refine .k hG (F3 _ (by omega) (by omega)) ?_
         refine .ap (by omega) (by omega) fun w48 => ?_
         refine .q 3 hG ?_
         refine .u0 hC .z (.as 4 a8 .z ?_)
         refine .q 6 hG ?_
         refine .e2 a8 a8 a8 ?_
         first|(exfalso;omega)|(rw [B2 (by simpa using hc7)])|(rw [y0 hpo];unfold u6;(repeat (first|rw [if_pos (by omega)]|rw [if_neg (by omega)]));(try simp);done)
        ·refine .q 2 hG ?_
         refine .u0 hC .z (.as 4 a8 .z ?_)
         refine .q 6 hG ?_
         refine .e2 a8 a8 a8 ?_
         first|(exfalso;omega)|(rw [B2 (by simpa using hc7)])|(rw [y0 hpo];unfold u6;(repeat (first|rw [if_pos (by omega)]|rw [if_neg (by omega)]));(try simp);done)
def a3i (k:Tag) (b:List UInt8) (x:m9):Bool:=decide (x.Key=k)&&decide (x.Y5=b)
def a3C (k:Tag) (b:List UInt8):List UInt8:=a2b (a3B k ((b.take (b.length - 32)).take 8)) ((b.take (b.length - 32)).drop 8) ((b.take (b.length - 32)).drop 8).length
def C4 (a:C9) (k:Tag) (b:List UInt8):List UInt8×Int :=
 if a.K1 then match a.x9.find? (a3i k b) with
  | some x=>(x.Plain,0)
  | none=>([],14)
 else if b.length < 40∨296 < b.length then ([],14) else
 if (a0e k.l (a3f.l++b.take (b.length - 32))).l=b.drop (b.length - 32) then (a3C k b,0) else ([],14)
theorem a3j {a:C9} {k:Tag} {b:List UInt8} {x:m9} (hf:a.K1=true) (h:a.x9.find? (a3i k b)=some x):C4 a k b=(x.Plain,0):=by unfold C4;rw [if_pos hf,h]
theorem a6m {a:C9} {k:Tag} {b:List UInt8} (hf:a.K1=true) (h:a.x9.find? (a3i k b)=none):C4 a k b=([],14):=by unfold C4;rw [if_pos hf,h]
theorem a6n {a:C9} {k:Tag} {b:List UInt8} (hf:a.K1=false) (h:b.length < 40∨296 < b.length):C4 a k b=([],14):=by unfold C4;rw [if_neg (by rw [hf];decide),if_pos h]
theorem a7m {a:C9} {k:Tag} {b:List UInt8} (hf:a.K1=false) (h:¬(b.length < 40∨296 < b.length)) (h2:¬(a0e k.l (a3f.l++b.take (b.length - 32))).l=b.drop (b.length - 32)):C4 a k b=([],14):=by
 unfold C4;rw [if_neg (by rw [hf];decide),if_neg h,if_neg h2]
theorem a5M {a:C9} {k:Tag} {b:List UInt8} (hf:a.K1=false) (h:¬(b.length < 40∨296 < b.length)) (h2:(a0e k.l (a3f.l++b.take (b.length - 32))).l=b.drop (b.length - 32)):C4 a k b=(a3C k b,0):=by
 unfold C4;rw [if_neg (by rw [hf];decide),if_neg h,if_pos h2]
theorem b6q (a:C9) (k:Tag) (b:List UInt8) (hpl:∀ x∈a.x9,x.Plain.length≤1000000):p4 gl prog 98 [.v a,.v k,.v b] (fun r=>r = .t2 (.v (C4 a k b).1) (.v (C4 a k b).2)):=by
 refine p4.jn func98 (by kernel_rfl) 64 rfl fun C hC hG => ?_
 refine .q 3 hG fun b3 => ?_
 refine .q 1 hG fun b4 => ?_
 refine .q 5 hG ?_
 refine .y6 hC .z (.L6 4 a8 .z (.y6 hC .z1 (.L6 3 a8 .z1 ?_)))
 refine .q 4 hG ?_
 refine .cond (.t a8) (fun hc13 => ?_) (fun hc13 => ?_)
 ·refine .q 9 hG ?_
  refine .D8 (α:=Nat) [(2,_),(4,_),(15,_),(16,_)] (fun i R=>(17,.v (i:Int))::R) (Function.const _ _) (fun i=>i≤a.x9.length∧∀ j (hj:j < a.x9.length),j < i→a3i k b a.x9[j]=false) (fun i=>a.x9.length - i) (0) (.c2 a8 a8 (.c2 a8 a8 (.nil _))) ?_ (.c2 a8 a8 (.c2 a8 a8 (.cons a8 (.nil _)))) (a8) fun i hF => ?_
  ·simp
  obtain⟨h1,h2⟩:=hF
  refine .q 6 hG ⟨fun hc18 => ?_,fun hc18 => ?_⟩
  ·refine .q 5 hG ?_
   refine .ix (by omega) (by omega) ?_
   refine .q 2 hG fun b9 => ?_
   refine .q 7 hG ?_
   refine .p (.a8p underlying26 sz5 underlying5 b3b (.t a8) (.t a8) ?_)
   refine .q 4 hG ?_
   refine .go 25 a8 (.t a8) (fun hg29 => .o8 hG (a07 _ _) (.cons (.q a8 hg29) (.cons (.q a8 hg29) .nil)) a8) ?_
   refine .q 2 hG ?_
   refine .cond (.t a8) (fun hc30 => ?_) (fun hc30 => ?_)
   ·refine .q 1 hG ?_
    have hb6:=hpl _ (List.getElem_mem (l:=a.x9) (n:=(i:Int).toNat) (by omega))
    refine .q 3 hG ?_
    refine .k hG (b0x _ (by omega)) ?_
    refine .q 4 hG ?_
    refine .e2 a8 a8 a8 ?_
    rw [a3j hc13 (a5H (k:=i) (by omega) hc30 h2)];rfl
   ·refine .q 1 hG ?_
    refine .drop (.T3 15 a8 fun hl15 => ?_)
    refine .q 1 hG ?_
    refine .ad (by omega) (by omega) ?_
    refine .q 2 hG ?_
    refine⟨i+1,.c2 rfl rfl (.c2 rfl rfl (.cons rfl (.nil _))),rfl,?_,by omega⟩
    refine⟨by omega,fun j hj hji => ?_⟩;rcases Nat.lt_or_ge j i with h|h;exact h2 j hj h;(obtain rfl:j=i:=by omega);exact hc30
  ·refine .q 7 hG ?_
   refine .e2 a8 a8 a8 ?_
   rw [a6m hc13 (a2B fun j hj=>h2 j hj (by omega))]
 ·refine .q 13 hG ?_
  refine .cond (.t a8) (fun hc42 => ?_) (fun hc42 => ?_)
  ·refine .q 6 hG ?_
   refine .e2 a8 a8 a8 ?_
   rw [a6n hc13 (by simp at hc42;omega)]
  ·refine .q 6 hG ?_
   refine .sb (by omega) (by simp at * <;> omega) (.p (.b6b ty5 underlying86 (.t a8) (.t a8) (by simp at * <;> omega) (by omega) ?_))
   refine .q 6 hG ?_
   refine .p (.o8 hG (b3K _ _ (by simp at * <;> omega)) (.cons (.t a8) (.cons (.t a8) .nil)) ?_)
   refine .q 1 hG fun b11 => ?_
   refine .q 4 hG ?_
   refine .y6 hC .z (.L6 11 a8 .z (.draw (by kernel_rfl) 7 [[],[],[],[(53,2)],[(52,1),(54,3)],[(51,0),(55,4)],[(56,5)]] a8 (by kernel_rfl) a8 ?_))
   refine⟨_,j6.O6 (by decide) M6 (.t a8) a8,?_⟩
   refine⟨_,j6.move (.t a8) a8,?_⟩
   refine⟨_,j6.move (.t a8) a8,?_⟩
   refine⟨_,j6.len underlying86 (.t a8) a8,?_⟩
   refine⟨_,j6.b7J ty5 underlying86 (.t a8) (.t a8) (by omega) (by simp<;>omega) a8,?_⟩
   refine⟨_,j6.o8 hG (c0o _ _) (.cons (.t a8) (.cons (.t a8) .nil)) a8,?_⟩
   refine⟨_,j6.not (.t a8) a8,?_⟩
   show D0 _ _ _ _ _ [] ((57,_)::(56,_)::(55,_)::(54,_)::(53,_)::(52,_)::(51,_)::_) _
   refine .q 1 hG ?_
   refine .cond (.t a8) (fun hc57 => ?_) (fun hc57 => ?_)
   ·refine .q 6 hG ?_
    refine .e2 a8 a8 a8 ?_
    have e1:((b.length:Int) - 32).toNat=b.length - 32:=by omega
    have e2:(List.take (b.length - 32) b).length=b.length - 32:=by simp
    rw [e1,Int.toNat_natCast,e2] at hc57
    rw [a7m hc13 (by simp at hc42;omega) (by simpa using hc57)]
   ·refine .q 2 hG ?_
    refine .draw (by kernel_rfl) 8 [[],[],[(59,1)],[],[(61,3)],[(58,0),(60,2),(62,4)],[(63,5)],[]] a8 (by kernel_rfl) a8 ?_
    refine⟨_,j6.G6 A5 (.t a8) a8,?_⟩
    refine⟨_,j6.move (.t a8) a8,?_⟩
    refine⟨_,j6.b6b ty5 underlying86 (.t a8) (.i a8) (by omega) (by simp at * <;> omega) a8,?_⟩
    refine⟨_,j6.move (.t a8) a8,?_⟩
    refine⟨_,j6.b7J ty5 underlying86 (.t a8) (.i a8) (by omega) (by simp at * <;> omega) a8,?_⟩
    refine⟨_,j6.o8 hG ((c0t _ _ _ (by simp<;>omega) (by simp at * <;> omega)).b0q) (.cons (.t a8) (.cons (.t a8) (.cons (.t a8) .nil))) a8,?_⟩
    refine⟨_,j6.assign (.t a8) a8,?_⟩
    refine⟨_,j6.assign (.i a8) a8,?_⟩
    show D0 _ _ _ _ _ [] ((7,_)::(6,_)::(63,_)::(62,_)::(61,_)::(60,_)::(59,_)::(58,_)::_) _
    refine .q 2 hG ?_
    refine .e2 a8 a8 a8 ?_
    have e1:((b.length:Int) - 32).toNat=b.length - 32:=by omega
    have e2:(List.take (b.length - 32) b).length=b.length - 32:=by simp
    rw [e1,Int.toNat_natCast,e2] at hc57
    rw [a5M hc13 (by simp at hc42;omega) (by simpa using hc57),e1];rfl
def a6o (b:List UInt8):Nat→UInt64
 | 0=>0
 | i+1=>256*a6o b i+(b.getD i 0).toUInt64
theorem b3R (b:List UInt8) (j:Nat) (h:(j:Int).toNat < b.length):256*a6o b j+(b[(j:Int).toNat]'h).toUInt64=a6o b (j+1):=by
 have e:b.getD j 0=b[(j:Int).toNat]'h:=by
  rw [List.getD_eq_getElem?_getD,List.getElem?_eq_getElem (by omega)];rfl
 rw [a6o,e]
theorem c3J (n:UInt64) (k:Nat) (hk:k < 64):(n >>> UInt64.ofNat k).toUInt8.toNat=n.toNat/2^k % 256:=by
 rw [UInt64.toNat_toUInt8,UInt64.toNat_shiftRight,UInt64.toNat_ofNat_of_lt' (by have:UInt64.size=18446744073709551616:=rfl;omega),Nat.mod_eq_of_lt hk,Nat.shiftRight_eq_div_pow]
theorem b3S (b:List UInt8) (h:8≤b.length):R9 (a6o b 8) 8=b.take 8:=by
 obtain⟨c0,c1,c2,c3,c4,c5,c6,c7,r,rfl⟩:∃ c0 c1 c2 c3 c4 c5 c6 c7 r,b=c0::c1::c2::c3::c4::c5::c6::c7::r:=by
  match b,h with
  | c0::c1::c2::c3::c4::c5::c6::c7::r,_=>exact⟨_,_,_,_,_,_,_,_,_,rfl⟩
 have l0:=c0.toNat_lt;have l1:=c1.toNat_lt;have l2:=c2.toNat_lt;have l3:=c3.toNat_lt
 have l4:=c4.toNat_lt;have l5:=c5.toNat_lt;have l6:=c6.toNat_lt;have l7:=c7.toNat_lt
 have hN:(a6o (c0::c1::c2::c3::c4::c5::c6::c7::r) 8).toNat=256*(256*(256*(256*(256*(256*(256*c0.toNat+c1.toNat)+c2.toNat)+c3.toNat)+c4.toNat)+c5.toNat)+c6.toNat)+c7.toNat:=by
  simp only [a6o,UInt64.toNat_add,UInt64.toNat_mul,List.getD_cons_zero,List.getD_cons_succ,UInt8.toNat_toUInt64,UInt64.toNat_ofNat]
  omega
 generalize a6o (c0::c1::c2::c3::c4::c5::c6::c7::r) 8=n at hN
 have key:∀ (k:Nat) (c:UInt8),k < 64→n.toNat/2^k % 256=c.toNat→(n >>> UInt64.ofNat k).toUInt8=c:=fun k c hk h=>UInt8.toNat_inj.1 ((c3J n k hk).trans h)
 have e:R9 n 8 = [(n >>> UInt64.ofNat (56 - 8*0)).toUInt8,(n >>> UInt64.ofNat (56 - 8*1)).toUInt8,(n >>> UInt64.ofNat (56 - 8*2)).toUInt8,(n >>> UInt64.ofNat (56 - 8*3)).toUInt8,(n >>> UInt64.ofNat (56 - 8*4)).toUInt8,(n >>> UInt64.ofNat (56 - 8*5)).toUInt8,(n >>> UInt64.ofNat (56 - 8*6)).toUInt8,(n >>> UInt64.ofNat (56 - 8*7)).toUInt8]:=rfl
 rw [e]
 simp only [List.take_succ_cons,List.take_zero]
 rw [key (56 - 8*0) c0 (by omega) (by simp;omega),key (56 - 8*1) c1 (by omega) (by simp;omega),key (56 - 8*2) c2 (by omega) (by simp;omega),key (56 - 8*3) c3 (by omega) (by simp;omega),
  key (56 - 8*4) c4 (by omega) (by simp;omega),key (56 - 8*5) c5 (by omega) (by simp;omega),key (56 - 8*6) c6 (by omega) (by simp;omega),key (56 - 8*7) c7 (by omega) (by simp;omega)]
theorem c0u (a:C9) (k:Tag) (b:List UInt8) (hpl:∀ x∈a.x9,x.Plain.length≤1000000):p4 gl prog 112 [.v a,.v k,.v b] (fun r=>r = .t2 (.v (C4 a k b).1) (.v (C4 a k b).2)):=by
 refine p4.jn func112 (by kernel_rfl) 89 rfl fun C hC hG => ?_
 refine .q 3 hG fun b3 => ?_
 refine .q 1 hG fun b4 => ?_
 refine .q 5 hG ?_
 refine .y6 hC .z (.L6 4 a8 .z (.y6 hC .z1 (.L6 3 a8 .z1 ?_)))
 refine .q 4 hG ?_
 refine .cond (.t a8) (fun hc14 => ?_) (fun hc14 => ?_)
 ·refine .q 6 hG ?_
  refine .D8 (α:=Nat) [(2,_),(3,_),(4,_)] (fun i R=>(8,.v (i:Int))::R) (Function.const _ _) (fun i=>i≤a.x9.length∧∀ j (hj:j < a.x9.length),j < i→a3i k b a.x9[j]=false) (fun i=>a.x9.length - i) (0) (.c2 a8 a8 (.cons a8 (.nil _))) ?_ (.c2 a8 a8 (.c2 a8 a8 (.nil _))) (a8) fun i hF => ?_
  ·simp
  obtain⟨h1,h2⟩:=hF
  refine .q 10 hG ⟨fun hc19 => ?_,fun hc19 => ?_⟩
  ·refine .q 4 hG ?_
   refine .draw (by kernel_rfl) 18 [[],[(22,0)],[],[(23,1),(24,2)],[(25,3)],[(26,4)],[],[(27,5),(28,6)],[(29,7)],[],[(31,9)],[],[(32,10),(33,11)],[(34,12)],[(35,13)],[],[(36,14),(37,15)],[(30,8),(38,16)]] a8 (by kernel_rfl) a8 ?_
   refine⟨_,j6.A7 m0.l4 (fun x=>x.x9) a5x a8 (fun _=>a8) (.t a8) a8,?_⟩
   refine⟨_,j6.G6 b3E (.t a8) a8,?_⟩
   refine⟨_,j6.move (.t a8) a8,?_⟩
   refine⟨_,j6.idx a5l underlying36 (.t a8) (.t a8) (by omega) (by omega) a8,?_⟩
   refine⟨_,j6.A7 m9.l0 (fun x=>x.Key) b4L a8 (fun _=>a8) (.t a8) a8,?_⟩
   refine⟨_,j6.G6 A5 (.t a8) a8,?_⟩
   refine⟨_,j6.G6 A5 (.t a8) a8,?_⟩
   refine⟨_,j6.a8p underlying26 sz5 underlying5 b3b (.t a8) (.t a8) a8,?_⟩
   refine⟨_,j6.move (.t a8) a8,?_⟩
   refine⟨_,⟨_,_,a8,a8,fun hg31=>j6.A7 m0.l4 (fun x=>x.x9) a5x a8 (fun _=>a8) (.t a8) a8⟩,?_⟩
   refine⟨_,⟨_,_,a8,a8,fun hg32=>j6.G6 b3E (.q a8 hg32) a8⟩,?_⟩
   refine⟨_,⟨_,_,a8,a8,fun hg33=>j6.move (.t a8) a8⟩,?_⟩
   refine⟨_,⟨_,_,a8,a8,fun hg34=>j6.idx a5l underlying36 (.q a8 hg34) (.q a8 hg34) (by first|omega|(simp;omega)|(have:=hg34;simp at this;omega)) (by first|omega|(simp;omega)|(have:=hg34;simp at this;omega)) a8⟩,?_⟩
   refine⟨_,⟨_,_,a8,a8,fun hg35=>j6.A7 m9.l3 (fun x=>x.Y5) a97 a8 (fun _=>a8) (.q a8 hg35) a8⟩,?_⟩
   refine⟨_,⟨_,_,a8,a8,fun hg36=>j6.G6 a3y (.q a8 hg36) a8⟩,?_⟩
   refine⟨_,⟨_,_,a8,a8,fun hg37=>j6.move (.t a8) a8⟩,?_⟩
   refine⟨_,⟨_,_,a8,a8,fun hg38=>j6.o8 hG (a6R _ _) (.cons (.q a8 hg38) (.cons (.q a8 hg38) .nil)) a8⟩,?_⟩
   refine⟨_,j6.T5 (.t a8) (fun hp=>(.q a8 hp)) a8,?_⟩
   show D0 _ _ _ _ _ [] ((39,_)::(38,_)::(37,_)::(36,_)::(35,_)::(34,_)::(33,_)::(32,_)::(31,_)::(30,_)::(29,_)::(28,_)::(27,_)::(26,_)::(25,_)::(24,_)::(23,_)::(22,_)::_) _
   refine .q 1 hG ?_
   refine .cond (.t a8) (fun hc39 => ?_) (fun hc39 => ?_)
   ·refine .q 1 hG ?_
    have hb6:=hpl _ (List.getElem_mem (l:=a.x9) (n:=(i:Int).toNat) (by omega))
    refine .q 1 hG ?_
    refine .h (.buildSlice (α:=UInt8) ty5 underlying86 .nil a8 (by decide) fun b40 => ?_)
    refine .q 3 hG ?_
    refine .ix (by omega) (by omega) ?_
    refine .q 2 hG ?_
    refine .ap (by simp at * <;> omega) (by simp at * <;> omega) fun w47 => ?_
    refine .q 3 hG ?_
    refine .u0 hC .z (.as 6 a8 .z ?_)
    refine .q 1 hG ?_
    refine .e2 a8 a8 a8 ?_
    rw [a3j hc14 (a5H (k:=i) (by omega) hc39 h2)];rfl
   ·refine .q 1 hG ?_
    refine .T3 17 a8 fun hl17 => ?_
    refine .q 2 hG ?_
    refine .ad (by omega) (by omega) ?_
    refine .q 2 hG ?_
    refine⟨i+1,.c2 rfl rfl (.c2 rfl rfl (.nil _)),rfl,?_,by omega⟩
    refine⟨by omega,fun j hj hji => ?_⟩;rcases Nat.lt_or_ge j i with h|h;exact h2 j hj h;(obtain rfl:j=i:=by omega);exact hc39
  ·refine .q 7 hG ?_
   refine .e2 a8 a8 a8 ?_
   rw [a6m hc14 (a2B fun j hj=>h2 j hj (by omega))]
 ·refine .q 17 hG ?_
  refine .cond (.t a8) (fun hc55 => ?_) (fun hc55 => ?_)
  ·refine .q 6 hG ?_
   refine .e2 a8 a8 a8 ?_
   rw [a6n hc14 (by simp at hc55;omega)]
  ·refine .q 2 hG ?_
   refine .a7h (by kernel_rfl) 8 [[],[],[],[(58,2)],[(57,1),(59,3)],[(60,4)],[(56,0),(61,5)],[]] [7] a8 (by kernel_rfl) a8 (by kernel_rfl) (by decide) ?_
   refine⟨_,fun H=>j6.O6 (by decide) M6 (.t a8) a8,?_⟩
   refine⟨_,fun H=>j6.move (.t a8) a8,?_⟩
   refine⟨_,fun H=>j6.move (.t a8) a8,?_⟩
   refine⟨_,fun H=>j6.sub (.t a8) (.i a8) (by omega) (by simp at * <;> omega) a8,?_⟩
   refine⟨_,fun H=>j6.b6b ty5 underlying86 (.t a8) (.t a8) (by simp at * <;> omega) (by omega) a8,?_⟩
   refine⟨_,fun H=>j6.o8 hG (a4E _ _ (by simp) (by simp at * <;> omega)) (.cons (.s [98,111,120] (by decide) (by decide)) (.cons (.t a8) .nil)) a8,?_⟩
   refine⟨_,fun H=>j6.o8 hG (a41 _ _ (by simp) (by simp at * <;> omega)) (.cons (.t a8) (.cons (.t a8) .nil)) a8,?_⟩
   refine .inl ?_
   refine A0.alloc A5 fun b10 => ?_
   show D0 _ _ _ _ _ [_] ((10,_)::(62,_)::(61,_)::(60,_)::(59,_)::(58,_)::(57,_)::(56,_)::_) _
   refine .q 4 hG ?_
   refine .y6 hC .z (.L6 10 a8 .z (.draw (by kernel_rfl) 7 [[],[],[],[(65,2)],[(64,1),(66,3)],[(63,0),(67,4)],[(68,5)]] a8 (by kernel_rfl) a8 ?_))
   refine⟨_,j6.O6 (by decide) M6 (.t a8) a8,?_⟩
   refine⟨_,j6.move (.t a8) a8,?_⟩
   refine⟨_,j6.move (.t a8) a8,?_⟩
   refine⟨_,j6.sub (.t a8) (.i a8) (by omega) (by simp at * <;> omega) a8,?_⟩
   refine⟨_,j6.b7J ty5 underlying86 (.t a8) (.t a8) (by simp at * <;> omega) (by omega) a8,?_⟩
   refine⟨_,j6.o8 hG (a6R _ _) (.cons (.t a8) (.cons (.t a8) .nil)) a8,?_⟩
   refine⟨_,j6.not (.t a8) a8,?_⟩
   show D0 _ _ _ _ _ [] ((69,_)::(68,_)::(67,_)::(66,_)::(65,_)::(64,_)::(63,_)::_) _
   refine .q 1 hG ?_
   refine .cond (.t a8) (fun hc69 => ?_) (fun hc69 => ?_)
   ·refine .q 6 hG ?_
    refine .e2 a8 a8 a8 ?_
    have e1:((b.length:Int) - 32).toNat=b.length - 32:=by omega
    rw [e1] at hc69
    have h9:(!decide ((a0e k.l (a3f.l++b.take (b.length - 32))).l=b.drop (b.length - 32)))=true:=hc69
    rw [a7m hc14 (by simp at hc55;omega) (by simpa using h9)]
   ·refine .q 11 hG ?_
    refine .D8 (α:=Nat) [(2,_),(4,_),(9,_)] (fun j R=>(11,.v (a6o b j))::(12,.v (j:Int))::R) (Function.const _ _) (fun j=>j≤8) (fun j=>8 - j) (0) (.c2 a8 a8 (.cons a8 (.nil _))) ?_ (.c2 a8 a8 (.c2 a8 a8 (.cons a8 (.nil _)))) (a8) fun j hF => ?_
    ·simp
    refine .q 7 hG ⟨fun hc71 => ?_,fun hc71 => ?_⟩
    ·refine .q 5 hG ?_
     refine .p (.b1d (.u64 256 a8) (.t a8) ?_)
     refine .q 2 hG ?_
     refine .ix (by omega) (by simp at * <;> omega) ?_
     refine .q 1 hG ?_
     refine .p (.a7Y underlying5 underlying77 (.t a8) ?_)
     refine .q 5 hG ?_
     refine .ad (by omega) (by omega) ?_
     refine .q 2 hG ?_
     refine⟨j+1,.cons (congrArg (fun q=>some (AV.v q)) (b3R b j _)) (.c2 rfl rfl (.c2 rfl rfl (.nil _))),rfl,?_,by omega⟩
     omega
    ·refine .q 2 hG ?_
     refine .draw (by kernel_rfl) 9 [[],[],[],[],[(85,3)],[(84,2),(86,4)],[(82,0),(83,1),(87,5)],[(88,6)],[]] a8 (by kernel_rfl) a8 ?_
     refine⟨_,j6.G6 A5 (.t a8) a8,?_⟩
     refine⟨_,j6.move (.t a8) a8,?_⟩
     refine⟨_,j6.move (.t a8) a8,?_⟩
     refine⟨_,j6.move (.t a8) a8,?_⟩
     refine⟨_,j6.sub (.t a8) (.i a8) (by omega) (by simp at * <;> omega) a8,?_⟩
     refine⟨_,j6.c3h ty5 underlying86 (.t a8) (.i a8) (.t a8) (by omega) (by simp at * <;> omega) (by omega) a8,?_⟩
     refine⟨_,j6.o8 hG (a9u _ _ _ (by simp at * <;> omega)) (.cons (.t a8) (.cons (.t a8) (.cons (.t a8) .nil))) a8,?_⟩
     refine⟨_,j6.assign (.t a8) a8,?_⟩
     refine⟨_,j6.assign (.i a8) a8,?_⟩
     show D0 _ _ _ _ _ [] ((7,_)::(6,_)::(88,_)::(87,_)::(86,_)::(85,_)::(84,_)::(83,_)::(82,_)::_) _
     refine .q 2 hG ?_
     refine .e2 a8 a8 a8 ?_
     obtain rfl:j=8:=by omega
     have e1:((b.length:Int) - 32).toNat=b.length - 32:=by omega
     rw [e1] at hc69
     have h9:(!decide ((a0e k.l (a3f.l++b.take (b.length - 32))).l=b.drop (b.length - 32)))=false:=hc69
     rw [a5M hc14 (by simp at hc55;omega) (by simpa using h9),e1,←a7l,b3S b (by simp at hc55;omega)]
     unfold a3C
     rw [List.take_take,Nat.min_eq_left (by simp at hc55;omega)];rfl
abbrev Cav:=o5
abbrev P9:=u1
abbrev Bnd:=p9
abbrev Rq:=u3
def S8 {α:Type} (f:α→List UInt8) (l:List α):List UInt8:=(l.map f).flatten
theorem a1A {α:Type} (f:α→List UInt8) (l:List α) (k:Nat) (h:k < l.length):S8 f (l.take (k+1))=S8 f (l.take k)++f l[k]:=by
 unfold S8;rw [List.take_succ_eq_append_getElem h,List.map_append,List.flatten_append];simp
theorem a10 {α:Type} (f:α→List UInt8) (l:List α) (m:Nat) (h:∀ x∈l,(f x).length≤m):(S8 f l).length≤m*l.length:=by
 induction l with
 | nil=>simp [S8]
 | cons n l ih =>
  have h1:=h n (by simp)
  have h2:=ih fun x hx=>h x (by simp [hx])
  unfold S8 at h2 ⊢
  rw [List.map_cons,List.flatten_cons,List.length_append,List.length_cons,Nat.mul_add];omega
theorem a2m {α:Type} (f:α→List UInt8) (l:List α) (m k:Nat) (h:∀ x∈l,(f x).length≤m):(S8 f (l.take k)).length≤m*l.length:=by
 have h1:=a10 f (l.take k) m fun x hx=>h x (List.mem_of_mem_take hx)
 have h2:(l.take k).length≤l.length:=by simp;omega
 exact Nat.le_trans h1 (Nat.mul_le_mul_left m h2)
def I5 (c:Cav):Bool :=
 if c.Q9 then decide (c.a2P=default)&&decide (0≤c.G7)&&decide (c.G7≤7)&&(decide (1≤c.l9.length)&&decide (c.l9.length≤1024))&&(decide (1≤c.Y5.length)&&decide (c.Y5.length≤1024))
 else y5 c.a2P&&decide (c.G7=0)&&decide (c.l9.length=0)&&decide (c.Y5.length=0)
def a0K (x:List UInt8):List UInt8:=J6 x.length++x
def E8 (c:Cav):List UInt8:=if c.Q9 then 2::(J6 c.G7.toNat++a0K c.l9++a0K c.Y5) else 1::u6 c.a2P
def W4 (c:Cav):List UInt8×Int:=if I5 c then (E8 c,0) else ([],5)
theorem a1B {x:List UInt8} (h:x.length≤1024):(a0K x).length≤1031:=by
 have:=B1 (n:=x.length) (by omega)
 unfold a0K;rw [List.length_append];omega
theorem a2V {c:Cav} (h:I5 c=true) (h3:c.Q9=true):c.a2P=default∧0≤c.G7∧c.G7≤7∧1≤c.l9.length∧c.l9.length≤1024∧1≤c.Y5.length∧c.Y5.length≤1024:=by
 unfold I5 at h;rw [if_pos h3] at h
 simp only [Bool.and_eq_true,decide_eq_true_eq] at h
 obtain⟨⟨⟨⟨a,b⟩,c⟩,d,e⟩,f,g⟩:=h
 exact⟨a,b,c,d,e,f,g⟩
theorem a2W {c:Cav} (h:I5 c=true) (h3:c.Q9=false):y5 c.a2P=true∧c.G7=0∧c.l9 = []∧c.Y5 = []:=by
 unfold I5 at h;rw [if_neg (by rw [h3];decide)] at h
 simp only [Bool.and_eq_true,decide_eq_true_eq,List.length_eq_zero_iff] at h
 obtain⟨⟨⟨a,b⟩,c⟩,d⟩:=h
 exact⟨a,b,c,d⟩
theorem a2e {c:Cav} (h:I5 c=true):(E8 c).length≤2100:=by
 unfold E8
 cases h3:c.Q9
 ·obtain⟨h1,_⟩:=a2W h h3
  have:=H5 (O1 h1)
  simp;omega
 ·obtain⟨_,p0,p1,_,t1,_,b1⟩:=a2V h h3
  have l1:=B1 (n:=c.G7.toNat) (by omega)
  have l2:=a1B t1
  have l3:=a1B b1
  simp;omega
def a0h (l:List Cav):List Pred:=(l.filter fun c => !c.Q9).map (·.a2P)
theorem a2f (l:List Cav) (k:Nat) (h:k < l.length):a0h (l.take (k+1))=a0h (l.take k)++if l[k].Q9 then [] else [l[k].a2P]:=by
 unfold a0h;rw [List.take_succ_eq_append_getElem h,List.filter_append,List.map_append]
 cases h2:l[k].Q9<;>simp [h2]
theorem a0Q (l:List Cav):(a0h l).length≤l.length:=by
 unfold a0h;rw [List.length_map];exact List.length_filter_le _ _
def a1a (l:List Cav):Int:=(l.length:Int) - (a0h l).length
def a1b (n:Int):List UInt8 := [109,105,110,116]++J6 n.toNat
def a2D (c:Cav):List UInt8 := [99,97,118,101,97,116]++(W4 c).1
def F8:List UInt8 := [110,111,100,101]
def D1 (t:List UInt8):List UInt8 := [115,101,97,108]++t
def a0v (t:List UInt8):List UInt8 := [103,114,97,110,116]++t
def W5 (p:Pred):List UInt8 := [99,111,110,100,105,116,105,111,110]++(U8 p).1
def a1c (r:Rq):List UInt8:=J6 r.Gate.toNat++J6 r.E0.toNat
def a2X (r:Rq):List UInt8 := [114,101,113,117,101,115,116]++a1c r
def W6 (leaf:Tag) (r:Rq):List UInt8 := [98,105,110,100]++(leaf.l++a1c r)
def U5 (r:Rq):Bool:=decide (0≤r.Gate)&&decide (r.Gate < 8)&&decide (1≤r.E0)&&decide (r.E0≤281474976710656)
theorem a1d {r:Rq} (h:U5 r=true):0≤r.Gate∧r.Gate < 8∧1≤r.E0∧r.E0≤281474976710656:=by
 unfold U5 at h;simp only [Bool.and_eq_true,decide_eq_true_eq] at h;omega
def X5 (p:Tag→List UInt8→Tag×Bool) (o:Option (List Tag)) (m:List UInt8):Option (List Tag) :=
 o.bind fun l=>if (p (l.getLastD default) m).2 then some (l ++ [(p (l.getLastD default) m).1]) else none
def R1 (p:Tag→List UInt8→Tag×Bool) (k:Tag) (l:List (List UInt8)):Option (List Tag):=l.foldl (X5 p) (some [k])
theorem a44 (p:Tag→List UInt8→Tag×Bool) (l:List (List UInt8)):l.foldl (X5 p) none=none:=by
 induction l with
 | nil=>rfl
 | cons m l ih=>exact ih
theorem a8D (p:Tag→List UInt8→Tag×Bool) (k:Tag) (l:List (List UInt8)) (i:Nat) (h:i < l.length):R1 p k (l.take (i+1))=X5 p (R1 p k (l.take i)) l[i]:=by
 unfold R1;rw [List.take_succ_eq_append_getElem h,List.foldl_append];rfl
theorem b3T (p:Tag→List UInt8→Tag×Bool) (k:Tag) (l:List (List UInt8)) (i:Nat) (h:R1 p k (l.take i)=none):R1 p k l=none:=by
 unfold R1 at *
 rw [←List.take_append_drop i l,List.foldl_append,h,a44]
def G8 (n:Int) (l:List Cav):List (List UInt8):=a1b n::l.map a2D
def J7 (e n:Int):Bool:=decide (1≤e)&&decide (e≤1000)&&decide (1≤n)&&decide (n≤1073741824)
def X7 (a:C9) (root:u7) (n:Int) (l:List Cav):List Tag×Int :=
 if J7 root.Number n=false then ([],1) else if l.all I5=false then ([],5) else
 match R1 (m6 a) root.Key (G8 n l) with
 | some t=>(t.drop 1,0)
 | none=>([],19)
def Z6 (a:C9) (o:Option (List Tag)) (t:Tag):Option (List Tag) :=
 o.bind fun l=>if (m6 a t F8).2 then some (l ++ [(m6 a t F8).1]) else none
def a0L (a:C9) (l:List Tag):Option (List Tag):=l.foldl (Z6 a) (some [])
theorem a8E (a:C9) (l:List Tag):l.foldl (Z6 a) none=none:=by
 induction l with
 | nil=>rfl
 | cons m l ih=>exact ih
theorem a7n (a:C9) (l:List Tag) (i:Nat) (h:i < l.length):a0L a (l.take (i+1))=Z6 a (a0L a (l.take i)) l[i]:=by
 unfold a0L;rw [List.take_succ_eq_append_getElem h,List.foldl_append];rfl
theorem b2c (a:C9) (l:List Tag) (i:Nat) (h:a0L a (l.take i)=none):a0L a l=none:=by
 unfold a0L at *
 rw [←List.take_append_drop i l,List.foldl_append,h,a8E]
def a1C (a:C9) (l:List Tag):List Tag×Int:=match a0L a l with|some t=>(t,0)|none=>([],19)
def V6 (a:C9) (o:Option Tag) (p:Pred):Option Tag :=
 o.bind fun t=>if y5 p=true∧p.Kind≠7∧(m6 a t (W5 p)).2=true then some (m6 a t (W5 p)).1 else none
theorem a5N (a:C9) (l:List Pred):l.foldl (V6 a) none=none:=by
 induction l with
 | nil=>rfl
 | cons m l ih=>exact ih
def a6W (a:C9) (k:Tag) (t:List UInt8):Option Tag:=if (m6 a k (a0v t)).2 then some (m6 a k (a0v t)).1 else none
def V7 (a:C9) (k:Tag) (t:List UInt8) (l:List Pred):Option Tag:=l.foldl (V6 a) (a6W a k t)
theorem a9B (a:C9) (k:Tag) (t:List UInt8) (l:List Pred) (i:Nat) (h:i < l.length):V7 a k t (l.take (i+1))=V6 a (V7 a k t (l.take i)) l[i]:=by
 unfold V7;rw [List.take_succ_eq_append_getElem h,List.foldl_append];rfl
theorem a6X (a:C9) (k:Tag) (t:List UInt8) (l:List Pred) (i:Nat) (h:V7 a k t (l.take i)=none):V7 a k t l=none:=by
 unfold V7 at *
 rw [←List.take_append_drop i l,List.foldl_append,h,a5N]
def a0B (a:C9) (leaf:Tag) (r:Rq):Tag×Bool:=if U5 r then m6 a leaf (a2X r) else (default,false)
def U9 (a:C9) (t leaf:Tag) (r:Rq):Tag×Bool:=if U5 r then m6 a t (W6 leaf r) else (default,false)
theorem a9d {a:C9} {k:Tag} {m:List UInt8} (h:(m6 a k m).2=false):(m6 a k m).1=default:=by
 unfold m6 M7 at *
 split
 ·next hf=>rw [if_pos hf] at h;cases hq:S1 a k m with|none=>rfl|some x=>rw [hq] at h;cases h
 ·next hf =>
  rw [if_neg hf] at h
  split
  ·rfl
  ·next h2=>rw [if_neg h2] at h;cases h
def a1D (a:C9) (k:Tag) (t:List UInt8) (l:List Pred):Tag×Bool:=((V7 a k t l).getD default,(V7 a k t l).isSome)
theorem b2d (a:C9) (k:Tag) (m:List UInt8):(if (m6 a k m).2=true then some (m6 a k m).1 else none).isSome=(m6 a k m).2∧(if (m6 a k m).2=true then some (m6 a k m).1 else none).getD default=(m6 a k m).1:=by
 cases h:(m6 a k m).2 with
 | false=>rw [if_neg (by decide)];exact⟨rfl,(a9d h).symm⟩
 | true=>rw [if_pos rfl];exact⟨rfl,rfl⟩
theorem a9C (a:C9) (k:Tag) (t:List UInt8) (l:List Pred):(V7 a k t (l.take 0)).isSome=(m6 a k (a0v t)).2∧(V7 a k t (l.take 0)).getD default=(m6 a k (a0v t)).1:=b2d a k (a0v t)
theorem b2e {a:C9} {k:Tag} {t:List UInt8} {l:List Pred} {i:Nat} (h:i < l.length) (hb:(!y5 l[i]||decide (l[i].Kind=7))=true):V7 a k t l=none:=by
 refine a6X a k t l (i+1) ?_
 rw [a9B a k t l i h]
 cases V7 a k t (l.take i) with
 | none=>rfl
 | some u =>
  unfold V6
  simp only [Option.bind_some]
  rw [if_neg]
  rintro⟨h1,h2,_⟩
  simp [h1,h2] at hb
theorem a9D {a : C9} {k : Tag} {t : List UInt8} {l : List Pred} {i : Nat} (h : i < l.length) (hs : (V7 a k t (l.take i)).isSome = true) (hb : (!y5 l[i] || decide (l[i].Kind = 7)) = false) :
    (V7 a k t (l.take (i+1))).isSome=(m6 a ((V7 a k t (l.take i)).getD default) (W5 l[i])).2∧(V7 a k t (l.take (i+1))).getD default=(m6 a ((V7 a k t (l.take i)).getD default) (W5 l[i])).1:=by
  rw [a9B a k t l i h]
  obtain⟨u,hu⟩:=Option.isSome_iff_exists.1 hs
  rw [hu]
  have hb2:y5 l[i]=true∧l[i].Kind≠7:=by simpa using hb
  have e:V6 a (some u) l[i]=if (m6 a u (W5 l[i])).2=true then some (m6 a u (W5 l[i])).1 else none:=by
    unfold V6
    simp only [Option.bind_some]
    by_cases h3:(m6 a u (W5 l[i])).2=true
    · rw [if_pos ⟨hb2.1,hb2.2,h3⟩,if_pos h3]
    · rw [if_neg fun h4=>h3 h4.2.2,if_neg h3]
  rw [e]
  exact b2d a u _
theorem a7o (p:Pred):decide ((U8 p).2≠0) = !y5 p:=by
 unfold U8
 cases h:y5 p<;>simp
theorem b2f {s:List Tag} (h:0 < s.length) (h2:((s.length:Int) - 1).toNat < s.length):s[((s.length:Int) - 1).toNat]=s.getLastD default:=by
 rw [List.getLastD_eq_getLast?,List.getLast?_eq_getElem?]
 have:((s.length:Int) - 1).toNat=s.length - 1:=by omega
 simp only [this]
 rw [List.getElem?_eq_getElem (by omega)];rfl
theorem b8s {p:Tag→List UInt8→Tag×Bool} {k:Tag} {l:List (List UInt8)} {i:Nat} {s:List Tag} (h:i < l.length) (hw:R1 p k (l.take i)=some s) (hb:(p (s.getLastD default) l[i]).2=false):R1 p k l=none:=by
 refine b3T p k l (i+1) ?_
 rw [a8D p k l i h,hw]
 show(if (p (s.getLastD default) l[i]).2 then some (s ++ [(p (s.getLastD default) l[i]).1]) else none)=none
 rw [hb];rfl
theorem b6r {p:Tag→List UInt8→Tag×Bool} {k:Tag} {l:List (List UInt8)} {i:Nat} {s:List Tag} (h:i < l.length) (hw:R1 p k (l.take i)=some s) (hb:(p (s.getLastD default) l[i]).2=true):R1 p k (l.take (i+1))=some (s ++ [(p (s.getLastD default) l[i]).1]):=by
 rw [a8D p k l i h,hw]
 show(if (p (s.getLastD default) l[i]).2 then some (s ++ [(p (s.getLastD default) l[i]).1]) else none)=_
 rw [hb];rfl
theorem a8F (n:Int) (l:List Cav) (i:Nat) (h:i < l.length):G8 n (l.take (i+1))=G8 n (l.take i) ++ [a2D l[i]]:=by
 unfold G8;rw [List.take_succ_eq_append_getElem h,List.map_append];rfl
theorem a5O {p:Tag→List UInt8→Tag×Bool} {k:Tag}:∀ {l:List (List UInt8)} {s r:List Tag},l.foldl (X5 p) (some s)=some r→∃ T,r=s++T∧T.length=l.length
 | [],s,r,h=>⟨[],by cases h;simp,rfl⟩
 | m::l,s,r,h=>by
  rw [List.foldl_cons] at h
  cases h2:X5 p (some s) m with
  | none=>rw [h2,a44] at h;cases h
  | some v =>
   rw [h2] at h
   obtain⟨T,h3,h4⟩:=a5O (k:=k) h
   have:∃ t,v=s ++ [t]:=by
    have h5:(if (p (s.getLastD default) m).2 then some (s ++ [(p (s.getLastD default) m).1]) else none)=some v:=h2
    split at h5
    ·exact⟨_,(Option.some.inj h5).symm⟩
    ·cases h5
   obtain⟨t,rfl⟩:=this
   exact⟨t::T,by rw [h3,List.append_assoc];rfl,by simp [h4]⟩
theorem a5n (n:Int) (l:List Cav):(G8 n l).length=l.length+1:=by unfold G8;simp
theorem getLastD_cons {k:Tag} {s:List Tag} (h:0 < s.length):(k::s).getLastD default=s.getLastD default:=by
 cases s with
 | nil=>simp at h
 | cons b s=>simp [List.getLastD]
theorem b6s {e n:Int} (h:(decide (e < 1)||decide (1000 < e)||decide (n < 1)||decide (1073741824 < n))=true):J7 e n=false:=by
 simp only [Bool.or_eq_true,decide_eq_true_eq] at h
 unfold J7;simp only [Bool.and_eq_false_iff,decide_eq_false_iff_not];omega
theorem a5P {e n:Int} (h:(decide (e < 1)||decide (1000 < e)||decide (n < 1)||decide (1073741824 < n))=false):J7 e n=true:=by
 simp only [Bool.or_eq_false_iff,decide_eq_false_iff_not] at h
 unfold J7;simp only [Bool.and_eq_true,decide_eq_true_eq];omega
theorem a7p {e n:Int} (h:J7 e n=true):1≤e∧e≤1000∧1≤n∧n≤1073741824:=by
 unfold J7 at h;simp only [Bool.and_eq_true,decide_eq_true_eq] at h;omega
theorem c0v {a:C9} {root:u7} {n:Int} {l:List Cav} (h:J7 root.Number n=false):X7 a root n l=([],1):=by unfold X7;rw [if_pos h]
theorem c0w {a:C9} {root:u7} {n:Int} {l:List Cav} (h:J7 root.Number n=true) (h2:l.all I5=false):X7 a root n l=([],5):=by unfold X7;rw [if_neg (by rw [h];decide),if_pos h2]
theorem b8t {a:C9} {root:u7} {n:Int} {l:List Cav} (h:J7 root.Number n=true) (h2:l.all I5=true) (h3:R1 (m6 a) root.Key (G8 n l)=none):X7 a root n l=([],19):=by
 unfold X7;rw [if_neg (by rw [h];decide),if_neg (by rw [h2];decide),h3]
theorem c0x {a:C9} {root:u7} {n:Int} {l:List Cav} {t:List Tag} (h:J7 root.Number n=true) (h2:l.all I5=true) (h3:R1 (m6 a) root.Key (G8 n l)=some t):X7 a root n l=(t.drop 1,0):=by
 unfold X7;rw [if_neg (by rw [h];decide),if_neg (by rw [h2];decide),h3]
theorem b6t {a:C9} {l:List Tag} {i:Nat} (h:i < l.length) (hb:(m6 a l[i] F8).2=false):a0L a l=none:=by
 refine b2c a l (i+1) ?_
 rw [a7n a l i h]
 cases a0L a (l.take i) with
 | none=>rfl
 | some s =>
  show(if (m6 a l[i] F8).2 then some (s ++ [(m6 a l[i] F8).1]) else none)=none
  rw [hb];rfl
theorem b3U {a:C9} {l:List Tag} {i:Nat} {s:List Tag} (h:i < l.length) (hw:a0L a (l.take i)=some s) (hb:(m6 a l[i] F8).2=true):a0L a (l.take (i+1))=some (s ++ [(m6 a l[i] F8).1]):=by
 rw [a7n a l i h,hw]
 show(if (m6 a l[i] F8).2 then some (s ++ [(m6 a l[i] F8).1]) else none)=_
 rw [hb];rfl
def K3 (d:Bnd):List UInt8:=a0K d.l9++J6 d.l8.length++S8 u6 d.l8++d.Proof.l
def a1e (b:P9):List UInt8:=numsL [1,b.Request.Gate,b.Request.E0,b.D3,b.A6,b.j8.length]++S8 E8 b.j8++b.Proof.l++J6 b.j4.length++S8 K3 b.j4
def a3k (d:Bnd):Bool:=decide (d.l9.length < 1)||decide (1024 < d.l9.length)||d.l8.any fun p => !y5 p
def a3D (d:Bnd):Bool:=d.l8.any fun p=>decide (p.Kind=7)
def a1K (d:Bnd):Bool:=decide (8 < d.l8.length)
def V0 (l:List Bnd) (k:Nat):Bool:=(List.range k).any fun i=>(l.take i).any fun x=>decide (x.l9=(l.getD i default).l9)
def a3l (l:List Bnd):Bool:=V0 l l.length
theorem a30 (l:List Bnd) (k:Nat) (h:k < l.length):V0 l (k+1)=(V0 l k||(l.take k).any fun x=>decide (x.l9=l[k].l9)):=by
 unfold V0;rw [List.range_succ,List.any_append];simp [List.getD_eq_getElem?_getD,h]
def P0 (b:P9):Bool:=U5 b.Request&&(decide (1≤b.D3)&&decide (b.D3≤1000)&&decide (1≤b.A6)&&decide (b.A6≤1073741824))
def S3 (b:P9):Bool:=decide (64 < b.j8.length)||decide (8 < a1a b.j8)||decide (8 < b.j4.length)||b.j4.any a1K
def F5 (b:P9):Int :=
 if P0 b=false then 1 else if S3 b then 2 else if (b.j8.any fun c => !I5 c)||b.j4.any a3k then 5
 else if b.j4.any a3D then 6 else if a3l b.j4 then 10 else 0
def K7 (b:P9):Int:=if F5 b≠0 then F5 b else if 4096 < (a1e b).length then 2 else 0
structure a9E (b:P9):Prop where
 range:P0 b=true
 rq:0≤b.Request.Gate∧b.Request.Gate < 8∧1≤b.Request.E0∧b.Request.E0≤281474976710656
 num:1≤b.D3∧b.D3≤1000∧1≤b.A6∧b.A6≤1073741824
 a4I:b.j8.length≤64
 c3K:b.j4.length≤8
 a7J:∀ d∈b.j4,d.l8.length≤8
 cav:∀ c∈b.j8,I5 c=true
 tick:∀ d∈b.j4,1≤d.l9.length∧d.l9.length≤1024
 con:∀ d∈b.j4,∀ p∈d.l8,y5 p=true
 b8u:∀ d∈b.j4,∀ p∈d.l8,p.Kind≠7
 c5k:a3l b.j4=false
theorem a4J {b:P9} (h:F5 b=0):a9E b:=by
 unfold F5 at h
 split at h
 ·cases h
 ·next h1 =>
  split at h
  ·cases h
  ·next h2 =>
   split at h
   ·cases h
   ·next h3 =>
    split at h
    ·cases h
    ·next h4 =>
     split at h
     ·cases h
     ·next h5 =>
      have h1:P0 b=true:=by simpa using h1
      have h2:S3 b=false:=by simpa using h2
      simp only [Bool.or_eq_true,not_or,Bool.not_eq_true] at h3
      obtain⟨h3a,h3b⟩:=h3
      have h6:=h1
      unfold P0 at h6
      unfold S3 at h2
      simp only [Bool.and_eq_true,decide_eq_true_eq] at h6
      simp only [Bool.not_eq_true] at h4
      simp only [Bool.or_eq_false_iff,decide_eq_false_iff_not,List.any_eq_false] at h2 h3a h3b h4
      refine⟨h1,a1d h6.1,by omega,by omega,by omega,fun d hd => ?_,fun c hc=>by simpa using h3a c hc,fun d hd => ?_,fun d hd p hp => ?_,fun d hd p hp => ?_,by simpa using h5⟩
      ·have:=h2.2 d hd;unfold a1K at this;simp at this;exact this
      ·have:=h3b d hd;unfold a3k at this;simp only [Bool.not_eq_true,Bool.or_eq_false_iff,decide_eq_false_iff_not] at this;omega
      ·have:=h3b d hd;unfold a3k at this;simp at this;exact this.2 p hp
      ·have:=h4 d hd;unfold a3D at this;simp at this;exact this p hp
theorem b0H {d:Bnd} (h1:d.l8.length≤8) (h2:d.l9.length≤1024) (h3:∀ p∈d.l8,y5 p=true):(K3 d).length≤1400:=by
 have l1:=a1B h2
 have l2:=B1 (n:=d.l8.length) (by omega)
 have l3:=a10 u6 d.l8 24 fun p hp=>H5 (O1 (h3 p hp))
 unfold K3
 simp only [List.length_append,d.Proof.len]
 omega
theorem b2g (m M:UInt64) (k:Nat) (hk:k < 64) (hM:M.toNat=2^k - 1):(m &&& M) >>> UInt64.ofNat k=0:=by
 apply UInt64.toNat_inj.1
 rw [UInt64.toNat_shiftRight,UInt64.toNat_and,hM,Nat.and_two_pow_sub_one_eq_mod,Nat.shiftRight_eq_div_pow]
 have e:(UInt64.ofNat k).toNat=k:=by simp;omega
 rw [e,Nat.mod_eq_of_lt (show k < 64 by omega)]
 show m.toNat % 2^k/2^k=0
 exact Nat.div_eq_of_lt (Nat.mod_lt _ (Nat.two_pow_pos k))
theorem c0y (n:Nat) (hn:n < 64):((1:UInt64) <<< UInt64.ofNat n).toNat=2^n:=by
 rw [UInt64.toNat_shiftLeft]
 have e:(UInt64.ofNat n).toNat=n:=by simp;omega
 rw [e,Nat.mod_eq_of_lt (show n < 64 by omega)]
 show(1 <<< n) % 2^64=2^n
 rw [Nat.one_shiftLeft]
 exact Nat.mod_eq_of_lt (Nat.pow_lt_pow_right (by decide) hn)
theorem ofInt_ofNat {v:Int} (h0:0≤v):UInt64.ofInt v=UInt64.ofNat v.toNat:=by
 obtain⟨n,rfl⟩:=Int.eq_ofNat_of_zero_le h0
 apply UInt64.toNat_inj.1
 simp [UInt64.ofInt];omega
theorem a0o {x:UInt64} {b:Int} (hb:b=64∨b=32∨b=7) (h3:b < 64) (h:¬(x &&& ((1 <<< UInt64.ofInt b) - 1))=0):a09 (x &&& ((1 <<< UInt64.ofInt b) - 1)) b=true:=by
 have h2:(x &&& ((1 <<< UInt64.ofInt b) - 1)) >>> UInt64.ofNat b.toNat=0:=by
  rcases hb with rfl|rfl|rfl
  ·omega
  ·exact b2g x _ 32 (by decide) (by decide)
  ·exact b2g x _ 7 (by decide) (by decide)
 unfold a09;rw [h2];simp [h]
theorem a0p {x:UInt64} {b:Int} (hb:b=64∨b=32∨b=7) (h3:¬b < 64) (h:¬x=0):a09 x b=true:=by
 obtain rfl:b=64:=by omega
 unfold a09;simp [h]
theorem a0q {v b:Int} (hb:b=64∨b=32∨b=7) (h0:0≤v) (h1:v < b):a09 (1 <<< UInt64.ofInt v) b=true:=by
 have hv:v.toNat < 64:=by omega
 have h2:=c0y v.toNat hv
 rw [ofInt_ofNat h0]
 have hne:¬((1:UInt64) <<< UInt64.ofNat v.toNat)=0:=fun e=>by
  rw [e] at h2
  have:=Nat.two_pow_pos v.toNat
  simp at h2;omega
 unfold a09
 by_cases h64:b=64
 ·simp [hne,h64]
 ·have h3:((1:UInt64) <<< UInt64.ofNat v.toNat) >>> UInt64.ofNat b.toNat=0:=by
   apply UInt64.toNat_inj.1
   rw [UInt64.toNat_shiftRight,h2,Nat.shiftRight_eq_div_pow]
   have e:(UInt64.ofNat b.toNat).toNat=b.toNat:=by simp;omega
   rw [e,Nat.mod_eq_of_lt (show b.toNat < 64 by omega)]
   exact Nat.div_eq_of_lt (Nat.pow_lt_pow_right (by decide) (by omega))
  rw [h3];simp [hne]
theorem a4K (w:Value) (d:m5) (b:Int) (hd:G1 d) (hb:b=64∨b=32∨b=7):E4 gl prog 85 [dk w,.v b] [.ob w d] (fun r Hs=>∃ m:UInt64,a09 m b=true∧∃ d',G1 d'∧r = .v m∧Hs = [.ob w d']):=by
 refine E4.P8 func85 rfl (by kernel_rfl) 45 rfl rfl _ rfl _ rfl fun C hC hG => ?_
 refine .q 12 hG ?_
 refine .km hG (F0 _ _ _ (by first|assumption|exact x4 _) (by omega) (by omega)) .z (by rintro _ _ ⟨_,_,_,_,_,_,rfl⟩;exact⟨_,rfl⟩) fun r7 B7 hr7 => ?_
 obtain⟨v7,d7,h07,h17,hd7,rfl,hB⟩:=hr7
 cases hB
 refine .q 8 hG ⟨fun hc8 => ?_,fun hc8 => ?_⟩
 ·refine .q 2 hG ?_
  refine .km hG (F0 _ _ _ (by first|assumption|exact x4 _) (by omega) (by omega)) .z (by rintro _ _ ⟨_,_,_,_,_,_,rfl⟩;exact⟨_,rfl⟩) fun r11 B11 hr11 => ?_
  obtain⟨v11,d11,h011,h111,hd11,rfl,hB⟩:=hr11
  cases hB
  refine .q 10 hG ⟨fun hc30 => ?_,fun hc30 => ?_⟩
  ·have hbn:(UInt64.ofInt b).toNat < 64:=by rcases hb with rfl|rfl|rfl;omega;decide;decide
   refine .q 4 hG ?_
   refine .p (.a2o (.u64 1 a8) (.t a8) (by omega) (by omega) ?_)
   refine .q 11 hG ⟨fun hc38 => ?_,fun hc38 => ?_⟩
   ·refine .q 4 hG ?_
    refine .km hG (F0 _ _ _ (by first|assumption|exact x4 _) (by omega) (by omega)) .z (by rintro _ _ ⟨_,_,_,_,_,_,rfl⟩;exact⟨_,rfl⟩) fun r41 B41 hr41 => ?_
    obtain⟨v41,d41,h041,h141,hd41,rfl,hB⟩:=hr41
    cases hB
    have hvn:(UInt64.ofInt v41).toNat < 64:=by rw [ofInt_ofNat h041];simp;omega
    refine .q 1 hG ?_
    refine .p (.a2o (.u64 1 a8) (.t a8) (by omega) (by omega) ?_)
    refine .q 3 hG ?_
    refine .e1 a8 a8 ?_
    refine⟨_,.cons .z (.nil),?_⟩
    first|exact⟨_,a0o hb (by assumption) (by assumption),_,by assumption,rfl,rfl⟩|exact⟨_,a0p hb (by assumption) (by assumption),_,by assumption,rfl,rfl⟩|exact⟨_,a0q hb (by assumption) (by assumption),_,by assumption,rfl,rfl⟩
   ·refine .q 7 hG ?_
    refine .e1 a8 a8 ?_
    refine⟨_,.cons .z (.nil),?_⟩
    first|exact⟨_,a0o hb (by assumption) (by assumption),_,by assumption,rfl,rfl⟩|exact⟨_,a0p hb (by assumption) (by assumption),_,by assumption,rfl,rfl⟩|exact⟨_,a0q hb (by assumption) (by assumption),_,by assumption,rfl,rfl⟩
  ·refine .q 8 hG ⟨fun hc38 => ?_,fun hc38 => ?_⟩
   ·refine .q 4 hG ?_
    refine .km hG (F0 _ _ _ (by first|assumption|exact x4 _) (by omega) (by omega)) .z (by rintro _ _ ⟨_,_,_,_,_,_,rfl⟩;exact⟨_,rfl⟩) fun r41 B41 hr41 => ?_
    obtain⟨v41,d41,h041,h141,hd41,rfl,hB⟩:=hr41
    cases hB
    have hvn:(UInt64.ofInt v41).toNat < 64:=by rw [ofInt_ofNat h041];simp;omega
    refine .q 1 hG ?_
    refine .p (.a2o (.u64 1 a8) (.t a8) (by omega) (by omega) ?_)
    refine .q 3 hG ?_
    refine .e1 a8 a8 ?_
    refine⟨_,.cons .z (.nil),?_⟩
    first|exact⟨_,a0o hb (by assumption) (by assumption),_,by assumption,rfl,rfl⟩|exact⟨_,a0p hb (by assumption) (by assumption),_,by assumption,rfl,rfl⟩|exact⟨_,a0q hb (by assumption) (by assumption),_,by assumption,rfl,rfl⟩
   ·refine .q 7 hG ?_
    refine .e1 a8 a8 ?_
    refine⟨_,.cons .z (.nil),?_⟩
    first|exact⟨_,a0o hb (by assumption) (by assumption),_,by assumption,rfl,rfl⟩|exact⟨_,a0p hb (by assumption) (by assumption),_,by assumption,rfl,rfl⟩|exact⟨_,a0q hb (by assumption) (by assumption),_,by assumption,rfl,rfl⟩
 ·refine .q 6 hG ⟨fun hc13 => ?_,fun hc13 => ?_⟩
  ·refine .q 2 hG ?_
   refine .km hG (F0 _ _ _ (by first|assumption|exact x4 _) (by omega) (by omega)) .z (by rintro _ _ ⟨_,_,_,_,_,_,rfl⟩;exact⟨_,rfl⟩) fun r16 B16 hr16 => ?_
   obtain⟨v16,d16,h016,h116,hd16,rfl,hB⟩:=hr16
   cases hB
   refine .q 2 hG ?_
   refine .km hG (F0 _ _ _ (by first|assumption|exact x4 _) (by omega) (by omega)) .z (by rintro _ _ ⟨_,_,_,_,_,_,rfl⟩;exact⟨_,rfl⟩) fun r19 B19 hr19 => ?_
   obtain⟨v19,d19,h019,h119,hd19,rfl,hB⟩:=hr19
   cases hB
   refine .q 1 hG ?_
   refine .p (.a2o (.t a8) (.u64 48 a8) (by omega) (by simp) ?_)
   refine .q 10 hG ⟨fun hc30 => ?_,fun hc30 => ?_⟩
   ·have hbn:(UInt64.ofInt b).toNat < 64:=by rcases hb with rfl|rfl|rfl;omega;decide;decide
    refine .q 4 hG ?_
    refine .p (.a2o (.u64 1 a8) (.t a8) (by omega) (by omega) ?_)
    refine .q 11 hG ⟨fun hc38 => ?_,fun hc38 => ?_⟩
    ·refine .q 4 hG ?_
     refine .km hG (F0 _ _ _ (by first|assumption|exact x4 _) (by omega) (by omega)) .z (by rintro _ _ ⟨_,_,_,_,_,_,rfl⟩;exact⟨_,rfl⟩) fun r41 B41 hr41 => ?_
     obtain⟨v41,d41,h041,h141,hd41,rfl,hB⟩:=hr41
     cases hB
     have hvn:(UInt64.ofInt v41).toNat < 64:=by rw [ofInt_ofNat h041];simp;omega
     refine .q 1 hG ?_
     refine .p (.a2o (.u64 1 a8) (.t a8) (by omega) (by omega) ?_)
     refine .q 3 hG ?_
     refine .e1 a8 a8 ?_
     refine⟨_,.cons .z (.nil),?_⟩
     first|exact⟨_,a0o hb (by assumption) (by assumption),_,by assumption,rfl,rfl⟩|exact⟨_,a0p hb (by assumption) (by assumption),_,by assumption,rfl,rfl⟩|exact⟨_,a0q hb (by assumption) (by assumption),_,by assumption,rfl,rfl⟩
    ·refine .q 7 hG ?_
     refine .e1 a8 a8 ?_
     refine⟨_,.cons .z (.nil),?_⟩
     first|exact⟨_,a0o hb (by assumption) (by assumption),_,by assumption,rfl,rfl⟩|exact⟨_,a0p hb (by assumption) (by assumption),_,by assumption,rfl,rfl⟩|exact⟨_,a0q hb (by assumption) (by assumption),_,by assumption,rfl,rfl⟩
   ·refine .q 8 hG ⟨fun hc38 => ?_,fun hc38 => ?_⟩
    ·refine .q 4 hG ?_
     refine .km hG (F0 _ _ _ (by first|assumption|exact x4 _) (by omega) (by omega)) .z (by rintro _ _ ⟨_,_,_,_,_,_,rfl⟩;exact⟨_,rfl⟩) fun r41 B41 hr41 => ?_
     obtain⟨v41,d41,h041,h141,hd41,rfl,hB⟩:=hr41
     cases hB
     have hvn:(UInt64.ofInt v41).toNat < 64:=by rw [ofInt_ofNat h041];simp;omega
     refine .q 1 hG ?_
     refine .p (.a2o (.u64 1 a8) (.t a8) (by omega) (by omega) ?_)
     refine .q 3 hG ?_
     refine .e1 a8 a8 ?_
     refine⟨_,.cons .z (.nil),?_⟩
     first|exact⟨_,a0o hb (by assumption) (by assumption),_,by assumption,rfl,rfl⟩|exact⟨_,a0p hb (by assumption) (by assumption),_,by assumption,rfl,rfl⟩|exact⟨_,a0q hb (by assumption) (by assumption),_,by assumption,rfl,rfl⟩
    ·refine .q 7 hG ?_
     refine .e1 a8 a8 ?_
     refine⟨_,.cons .z (.nil),?_⟩
     first|exact⟨_,a0o hb (by assumption) (by assumption),_,by assumption,rfl,rfl⟩|exact⟨_,a0p hb (by assumption) (by assumption),_,by assumption,rfl,rfl⟩|exact⟨_,a0q hb (by assumption) (by assumption),_,by assumption,rfl,rfl⟩
  ·refine .q 6 hG ⟨fun hc23 => ?_,fun hc23 => ?_⟩
   ·refine .q 2 hG ?_
    refine .km hG (F0 _ _ _ (by first|assumption|exact x4 _) (by omega) (by omega)) .z (by rintro _ _ ⟨_,_,_,_,_,_,rfl⟩;exact⟨_,rfl⟩) fun r26 B26 hr26 => ?_
    obtain⟨v26,d26,h026,h126,hd26,rfl,hB⟩:=hr26
    cases hB
    refine .q 1 hG ?_
    refine .p (.b7g (.t a8) ?_)
    refine .q 9 hG ⟨fun hc30 => ?_,fun hc30 => ?_⟩
    ·have hbn:(UInt64.ofInt b).toNat < 64:=by rcases hb with rfl|rfl|rfl;omega;decide;decide
     refine .q 4 hG ?_
     refine .p (.a2o (.u64 1 a8) (.t a8) (by omega) (by omega) ?_)
     refine .q 11 hG ⟨fun hc38 => ?_,fun hc38 => ?_⟩
     ·refine .q 4 hG ?_
      refine .km hG (F0 _ _ _ (by first|assumption|exact x4 _) (by omega) (by omega)) .z (by rintro _ _ ⟨_,_,_,_,_,_,rfl⟩;exact⟨_,rfl⟩) fun r41 B41 hr41 => ?_
      obtain⟨v41,d41,h041,h141,hd41,rfl,hB⟩:=hr41
      cases hB
      have hvn:(UInt64.ofInt v41).toNat < 64:=by rw [ofInt_ofNat h041];simp;omega
      refine .q 1 hG ?_
      refine .p (.a2o (.u64 1 a8) (.t a8) (by omega) (by omega) ?_)
      refine .q 3 hG ?_
      refine .e1 a8 a8 ?_
      refine⟨_,.cons .z (.nil),?_⟩
      first|exact⟨_,a0o hb (by assumption) (by assumption),_,by assumption,rfl,rfl⟩|exact⟨_,a0p hb (by assumption) (by assumption),_,by assumption,rfl,rfl⟩|exact⟨_,a0q hb (by assumption) (by assumption),_,by assumption,rfl,rfl⟩
     ·refine .q 7 hG ?_
      refine .e1 a8 a8 ?_
      refine⟨_,.cons .z (.nil),?_⟩
      first|exact⟨_,a0o hb (by assumption) (by assumption),_,by assumption,rfl,rfl⟩|exact⟨_,a0p hb (by assumption) (by assumption),_,by assumption,rfl,rfl⟩|exact⟨_,a0q hb (by assumption) (by assumption),_,by assumption,rfl,rfl⟩
    ·refine .q 8 hG ⟨fun hc38 => ?_,fun hc38 => ?_⟩
     ·refine .q 4 hG ?_
      refine .km hG (F0 _ _ _ (by first|assumption|exact x4 _) (by omega) (by omega)) .z (by rintro _ _ ⟨_,_,_,_,_,_,rfl⟩;exact⟨_,rfl⟩) fun r41 B41 hr41 => ?_
      obtain⟨v41,d41,h041,h141,hd41,rfl,hB⟩:=hr41
      cases hB
      have hvn:(UInt64.ofInt v41).toNat < 64:=by rw [ofInt_ofNat h041];simp;omega
      refine .q 1 hG ?_
      refine .p (.a2o (.u64 1 a8) (.t a8) (by omega) (by omega) ?_)
      refine .q 3 hG ?_
      refine .e1 a8 a8 ?_
      refine⟨_,.cons .z (.nil),?_⟩
      first|exact⟨_,a0o hb (by assumption) (by assumption),_,by assumption,rfl,rfl⟩|exact⟨_,a0p hb (by assumption) (by assumption),_,by assumption,rfl,rfl⟩|exact⟨_,a0q hb (by assumption) (by assumption),_,by assumption,rfl,rfl⟩
     ·refine .q 7 hG ?_
      refine .e1 a8 a8 ?_
      refine⟨_,.cons .z (.nil),?_⟩
      first|exact⟨_,a0o hb (by assumption) (by assumption),_,by assumption,rfl,rfl⟩|exact⟨_,a0p hb (by assumption) (by assumption),_,by assumption,rfl,rfl⟩|exact⟨_,a0q hb (by assumption) (by assumption),_,by assumption,rfl,rfl⟩
   ·refine .q 8 hG ⟨fun hc30 => ?_,fun hc30 => ?_⟩
    ·have hbn:(UInt64.ofInt b).toNat < 64:=by rcases hb with rfl|rfl|rfl;omega;decide;decide
     refine .q 4 hG ?_
     refine .p (.a2o (.u64 1 a8) (.t a8) (by omega) (by omega) ?_)
     refine .q 11 hG ⟨fun hc38 => ?_,fun hc38 => ?_⟩
     ·refine .q 4 hG ?_
      refine .km hG (F0 _ _ _ (by first|assumption|exact x4 _) (by omega) (by omega)) .z (by rintro _ _ ⟨_,_,_,_,_,_,rfl⟩;exact⟨_,rfl⟩) fun r41 B41 hr41 => ?_
      obtain⟨v41,d41,h041,h141,hd41,rfl,hB⟩:=hr41
      cases hB
      have hvn:(UInt64.ofInt v41).toNat < 64:=by rw [ofInt_ofNat h041];simp;omega
      refine .q 1 hG ?_
      refine .p (.a2o (.u64 1 a8) (.t a8) (by omega) (by omega) ?_)
      refine .q 3 hG ?_
      refine .e1 a8 a8 ?_
      refine⟨_,.cons .z (.nil),?_⟩
      first|exact⟨_,a0o hb (by assumption) (by assumption),_,by assumption,rfl,rfl⟩|exact⟨_,a0p hb (by assumption) (by assumption),_,by assumption,rfl,rfl⟩|exact⟨_,a0q hb (by assumption) (by assumption),_,by assumption,rfl,rfl⟩
     ·refine .q 7 hG ?_
      refine .e1 a8 a8 ?_
      refine⟨_,.cons .z (.nil),?_⟩
      first|exact⟨_,a0o hb (by assumption) (by assumption),_,by assumption,rfl,rfl⟩|exact⟨_,a0p hb (by assumption) (by assumption),_,by assumption,rfl,rfl⟩|exact⟨_,a0q hb (by assumption) (by assumption),_,by assumption,rfl,rfl⟩
    ·refine .q 8 hG ⟨fun hc38 => ?_,fun hc38 => ?_⟩
     ·refine .q 4 hG ?_
      refine .km hG (F0 _ _ _ (by first|assumption|exact x4 _) (by omega) (by omega)) .z (by rintro _ _ ⟨_,_,_,_,_,_,rfl⟩;exact⟨_,rfl⟩) fun r41 B41 hr41 => ?_
      obtain⟨v41,d41,h041,h141,hd41,rfl,hB⟩:=hr41
      cases hB
      have hvn:(UInt64.ofInt v41).toNat < 64:=by rw [ofInt_ofNat h041];simp;omega
      refine .q 1 hG ?_
      refine .p (.a2o (.u64 1 a8) (.t a8) (by omega) (by omega) ?_)
      refine .q 3 hG ?_
      refine .e1 a8 a8 ?_
      refine⟨_,.cons .z (.nil),?_⟩
      first|exact⟨_,a0o hb (by assumption) (by assumption),_,by assumption,rfl,rfl⟩|exact⟨_,a0p hb (by assumption) (by assumption),_,by assumption,rfl,rfl⟩|exact⟨_,a0q hb (by assumption) (by assumption),_,by assumption,rfl,rfl⟩
     ·refine .q 7 hG ?_
      refine .e1 a8 a8 ?_
      refine⟨_,.cons .z (.nil),?_⟩
      first|exact⟨_,a0o hb (by assumption) (by assumption),_,by assumption,rfl,rfl⟩|exact⟨_,a0p hb (by assumption) (by assumption),_,by assumption,rfl,rfl⟩|exact⟨_,a0q hb (by assumption) (by assumption),_,by assumption,rfl,rfl⟩
theorem a0w (w:Value) (d:m5) (hd:G1 d):E4 gl prog 54 [dk w] [.ob w d] (fun r Hs=>∃ v:Int,0≤v∧v≤67108864∧∃ d',G1 d'∧r = .v v∧Hs = [.ob w d']):=by
 refine E4.P8 func54 rfl (by kernel_rfl) 25 rfl rfl _ rfl _ rfl fun C hC hG => ?_
 refine .q 8 hG ?_
 refine .km hG (F0 _ _ _ (by first|assumption|exact x4 _) (by omega) (by omega)) .z (by rintro _ _ ⟨_,_,_,_,_,_,rfl⟩;exact⟨_,rfl⟩) fun r4 B4 hr4 => ?_
 obtain⟨v4,d4,h04,h14,hd4,rfl,hB⟩:=hr4
 cases hB
 refine .q 8 hG ⟨fun hc5 => ?_,fun hc5 => ?_⟩
 ·refine .q 3 hG ?_
  refine .km hG (F0 _ _ _ (by first|assumption|exact x4 _) (by omega) (by omega)) .z (by rintro _ _ ⟨_,_,_,_,_,_,rfl⟩;exact⟨_,rfl⟩) fun r8 B8 hr8 => ?_
  obtain⟨v8,d8,h08,h18,hd8,rfl,hB⟩:=hr8
  cases hB
  refine .q 3 hG ?_
  refine .e1 a8 a8 ?_
  refine⟨_,.cons .z (.nil),?_⟩
  exact⟨_,by omega,by omega,_,by assumption,rfl,rfl⟩
 ·refine .q 6 hG ⟨fun hc9 => ?_,fun hc9 => ?_⟩
  ·refine .q 3 hG ?_
   refine .km hG (F0 _ _ _ (by first|assumption|exact x4 _) (by omega) (by omega)) .z (by rintro _ _ ⟨_,_,_,_,_,_,rfl⟩;exact⟨_,rfl⟩) fun r12 B12 hr12 => ?_
   obtain⟨v12,d12,h012,h112,hd12,rfl,hB⟩:=hr12
   cases hB
   refine .p (.mul (.t a8) (.i a8) (by omega) (by omega) ?_)
   refine .q 1 hG ?_
   refine .km hG (F0 _ _ _ (by first|assumption|exact x4 _) (by omega) (by omega)) .z (by rintro _ _ ⟨_,_,_,_,_,_,rfl⟩;exact⟨_,rfl⟩) fun r15 B15 hr15 => ?_
   obtain⟨v15,d15,h015,h115,hd15,rfl,hB⟩:=hr15
   cases hB
   refine .ad (by omega) (by omega) (.p (.a9V (.t a8) (.i a8) ?_))
   refine .q 3 hG ?_
   refine .e1 a8 a8 ?_
   refine⟨_,.cons .z (.nil),?_⟩
   exact⟨_,by omega,by omega,_,by assumption,rfl,rfl⟩
  ·refine .q 6 hG ⟨fun hc18 => ?_,fun hc18 => ?_⟩
   ·refine .q 3 hG ?_
    refine .km hG (F0 _ _ _ (by first|assumption|exact x4 _) (by omega) (by omega)) .z (by rintro _ _ ⟨_,_,_,_,_,_,rfl⟩;exact⟨_,rfl⟩) fun r21 B21 hr21 => ?_
    obtain⟨v21,d21,h021,h121,hd21,rfl,hB⟩:=hr21
    cases hB
    refine .sb (by omega) (by omega) ?_
    refine .q 3 hG ?_
    refine .e1 a8 a8 ?_
    refine⟨_,.cons .z (.nil),?_⟩
    exact⟨_,by omega,by omega,_,by assumption,rfl,rfl⟩
   ·refine .q 4 hG ?_
    refine .km hG (F0 _ _ _ (by first|assumption|exact x4 _) (by omega) (by omega)) .z (by rintro _ _ ⟨_,_,_,_,_,_,rfl⟩;exact⟨_,rfl⟩) fun r24 B24 hr24 => ?_
    obtain⟨v24,d24,h024,h124,hd24,rfl,hB⟩:=hr24
    cases hB
    refine .q 3 hG ?_
    refine .e1 a8 a8 ?_
    refine⟨_,.cons .z (.nil),?_⟩
    exact⟨_,by omega,by omega,_,by assumption,rfl,rfl⟩
theorem b3W (w:Value) (d:m5) (hd:G1 d):E4 gl prog 55 [dk w] [.ob w d] (fun r Hs=>∃ s:Y4,Q3 s=true∧∃ d',G1 d'∧r = .v s∧Hs = [.ob w d']):=by
 have hn:=T6 (d:=d) (n:=8) (by decide)
 refine E4.jn func55 (by kernel_rfl) 8 rfl fun C hC hG => ?_
 refine .q 2 hG ?_
 refine .p (.assign (.s [] (by decide) (by decide)) ?_)
 refine .q 3 hG ?_
 refine .bs a8 (by decide) fun b3 => ?_
 refine .q 1 hG ?_
 refine .km hG (a2z _ _ _ hd (by omega) (by omega)) .z1 (by rintro _ _ ⟨_,rfl⟩;exact⟨_,rfl⟩) fun r5 B5 hr5 => ?_
 obtain⟨rfl,hB⟩:=hr5
 cases hB
 refine .p (.V2 ty9 underlying71 a8 .z (.t a8) (by omega) (by simp<;>omega) (.p (.b1B ty9 (.t a8) .z (by simp<;>omega) ?_)))
 refine .q 2 hG ?_
 refine .drop ?_
 refine .q 1 hG ?_
 refine .e1 a8 a8 ?_
 refine⟨_,?_,_,O8 hd,a8,a8⟩
 refine(show ∀ s∈_,Q3 s=true from ?_) _ (List.getElem_mem _)
 decide
theorem E5 {k:Int} {m:UInt64} (hk:k=1∨k=2∨k=3) (h:a09 m (G5 k)=true):y5 ⟨k,m,0,0,⟨[]⟩,0⟩=true:=by
 unfold y5;rw [if_pos hk];dsimp only;rw [h];simp
theorem I4 {a b:Int} (h0:0≤a) (h1:a≤b) (h2:b≤67108864):y5 ⟨4,0,a,b,⟨[]⟩,0⟩=true:=by
 unfold y5;simp [h0,h1,h2]
theorem K4 {a b:Int} (h0:0≤a) (h1:a < 1440) (h2:0≤b) (h3:b < 1440):y5 ⟨5,0,a,b,⟨[]⟩,0⟩=true:=by
 unfold y5;simp [h0,h1,h2,h3]
theorem Q6 {s:Y4} (h:Q3 s=true):y5 ⟨6,0,0,0,s,0⟩=true:=by unfold y5;simp [h]
theorem L8 {n:Int} (h0:0≤n) (h1:n≤1000000):y5 ⟨7,0,0,0,⟨[]⟩,n⟩=true:=by unfold y5;simp [h0,h1]
theorem R5 (w:Value) (d:m5) (b8u:Bool) (hd:G1 d):E4 gl prog 34 [dk w,.v b8u] [.ob w d] (fun r Hs=>∃ p:Pred,y5 p=true∧(b8u=false→p.Kind≠7)∧∃ d',G1 d'∧r = .v p∧Hs = [.ob w d']):=by
 refine E4.P8 func34 rfl (by kernel_rfl) 81 rfl rfl _ rfl _ rfl fun C hC hG => ?_
 refine .q 3 hG fun b4 => ?_
 refine .q 4 hG ?_
 refine .km hG (a43 _ _ _ _ (by first|assumption|exact x4 _) (by omega) (by omega) (by omega)) .z1 (by rintro _ _ ⟨_,_,_,_,_,_,rfl⟩;exact⟨_,rfl⟩) fun r9 B9 hr9 => ?_
 obtain⟨v9,d9,h09,h19,hd9,rfl,hB⟩:=hr9
 cases hB
 refine .p (.bS1 j3.l0 a8 Q2 a6G (fun c0=>(⟨c0,0,0,0,⟨[]⟩,0⟩:j3)) (fun _=>a8) a8 a8 (.t a8) ?_)
 refine .q 1 hG fun b5 => ?_
 refine .q 13 hG ?_
 refine .cond (.t a8) (fun hc17 => ?_) (fun hc17 => ?_)
 ·refine .q 16 hG ?_
  refine .K8 (.t rfl) (fun hc21=>(by exfalso;exact absurd hc21 (show ¬(4:Int)=1 by decide))) (fun hc21 => ?_)
  refine .q 5 hG ?_
  refine .K8 (.t rfl) (fun hc26=>(by exfalso;exact absurd hc26 (show ¬(4:Int)=2 by decide))) (fun hc26 => ?_)
  refine .q 5 hG ?_
  refine .K8 (.t rfl) (fun hc31=>(by exfalso;exact absurd hc31 (show ¬(4:Int)=3 by decide))) (fun hc31 => ?_)
  refine .q 5 hG ?_
  refine .K8 (.t a8) (fun hc36 => ?_) (fun hc36=>(by exfalso;exact hc36 rfl))
  refine .q 3 hG ?_
  refine .km hG (a0w _ _ (by assumption)) .z2 (by rintro _ _ ⟨_,_,_,_,_,_,rfl⟩;exact⟨_,rfl⟩) fun r39 B39 hr39 => ?_
  obtain⟨v39,h039,h139,d39,hd39,rfl,hB⟩:=hr39
  cases hB
  refine .q 1 hG ?_
  refine .km hG (a0w _ _ (by assumption)) .z2 (by rintro _ _ ⟨_,_,_,_,_,_,rfl⟩;exact⟨_,rfl⟩) fun r41 B41 hr41 => ?_
  obtain⟨v41,h041,h141,d41,hd41,rfl,hB⟩:=hr41
  cases hB
  refine .q 6 hG ?_
  refine .p (.a9V (.t a8) (.t a8) ?_)
  refine .q 2 hG ?_
  refine .p (.b5T (.t a8) (.t a8) ?_)
  refine .q 11 hG ?_
  refine⟨_,.r1 a8 (.cell Q2 a8 .z1),?_⟩
  refine⟨_,.cons .z2 (.nil),?_⟩
  first|(exfalso;(try dsimp only at *);omega)|exact⟨⟨4,0,min v39 v41,max v39 v41,⟨[]⟩,0⟩,I4 (by omega) (by omega) (by omega),fun _=>(show(4:Int)≠7 by decide),_,by assumption,rfl,rfl⟩|(obtain rfl:v9=1:=(by assumption);exact⟨_,E5 (Or.inl rfl) (by assumption),fun _=>(show(1:Int)≠7 by decide),_,by assumption,rfl,rfl⟩)|(obtain rfl:v9=2:=(by assumption);exact⟨_,E5 (Or.inr (Or.inl rfl)) (by assumption),fun _=>(show(2:Int)≠7 by decide),_,by assumption,rfl,rfl⟩)|(obtain rfl:v9=3:=(by assumption);exact⟨_,E5 (Or.inr (Or.inr rfl)) (by assumption),fun _=>(show(3:Int)≠7 by decide),_,by assumption,rfl,rfl⟩)|(obtain rfl:v9=4:=(by assumption);exact⟨⟨4,0,min v39 v41,max v39 v41,⟨[]⟩,0⟩,I4 (by omega) (by omega) (by omega),fun _=>(show(4:Int)≠7 by decide),_,by assumption,rfl,rfl⟩)|(obtain rfl:v9=5:=(by assumption);exact⟨⟨5,0,v53,v55,⟨[]⟩,0⟩,K4 (by omega) (by omega) (by omega) (by omega),fun _=>(show(5:Int)≠7 by decide),_,by assumption,rfl,rfl⟩)|(obtain rfl:v9=5:=(by assumption);exact⟨⟨5,0,v53,(v53+v64+1440 - 1) % 1440,⟨[]⟩,0⟩,K4 (by omega) (by omega) (by omega) (by omega),fun _=>(show(5:Int)≠7 by decide),_,by assumption,rfl,rfl⟩)|(obtain rfl:v9=6:=(by assumption);exact⟨_,Q6 (by assumption),fun _=>(show(6:Int)≠7 by decide),_,by assumption,rfl,rfl⟩)|(obtain rfl:v9=7:=(by assumption);exact⟨⟨7,0,0,0,⟨[]⟩,v78⟩,L8 (by omega) (by omega),fun h=>(by subst h;simp at hc17),_,by assumption,rfl,rfl⟩)
 ·refine .q 14 hG ⟨fun hc21 => ?_,fun hc21 => ?_⟩
  ·refine .q 2 hG ?_
   refine .km hG (a4K _ _ _ (by assumption) (by decide)) .z2 (by rintro _ _ ⟨_,_,_,_,_,rfl⟩;exact⟨_,rfl⟩) fun r24 B24 hr24 => ?_
   obtain⟨m24,hm24,d24,hd24,rfl,hB⟩:=hr24
   cases hB
   refine .q 9 hG ?_
   refine⟨_,.r1 a8 (.cell Q2 a8 .z1),?_⟩
   refine⟨_,.cons .z2 (.nil),?_⟩
   first|(exfalso;(try dsimp only at *);omega)|exact⟨⟨4,0,min v39 v41,max v39 v41,⟨[]⟩,0⟩,I4 (by omega) (by omega) (by omega),fun _=>(show(4:Int)≠7 by decide),_,by assumption,rfl,rfl⟩|(obtain rfl:v9=1:=(by assumption);exact⟨_,E5 (Or.inl rfl) (by assumption),fun _=>(show(1:Int)≠7 by decide),_,by assumption,rfl,rfl⟩)|(obtain rfl:v9=2:=(by assumption);exact⟨_,E5 (Or.inr (Or.inl rfl)) (by assumption),fun _=>(show(2:Int)≠7 by decide),_,by assumption,rfl,rfl⟩)|(obtain rfl:v9=3:=(by assumption);exact⟨_,E5 (Or.inr (Or.inr rfl)) (by assumption),fun _=>(show(3:Int)≠7 by decide),_,by assumption,rfl,rfl⟩)|(obtain rfl:v9=4:=(by assumption);exact⟨⟨4,0,min v39 v41,max v39 v41,⟨[]⟩,0⟩,I4 (by omega) (by omega) (by omega),fun _=>(show(4:Int)≠7 by decide),_,by assumption,rfl,rfl⟩)|(obtain rfl:v9=5:=(by assumption);exact⟨⟨5,0,v53,v55,⟨[]⟩,0⟩,K4 (by omega) (by omega) (by omega) (by omega),fun _=>(show(5:Int)≠7 by decide),_,by assumption,rfl,rfl⟩)|(obtain rfl:v9=5:=(by assumption);exact⟨⟨5,0,v53,(v53+v64+1440 - 1) % 1440,⟨[]⟩,0⟩,K4 (by omega) (by omega) (by omega) (by omega),fun _=>(show(5:Int)≠7 by decide),_,by assumption,rfl,rfl⟩)|(obtain rfl:v9=6:=(by assumption);exact⟨_,Q6 (by assumption),fun _=>(show(6:Int)≠7 by decide),_,by assumption,rfl,rfl⟩)|(obtain rfl:v9=7:=(by assumption);exact⟨⟨7,0,0,0,⟨[]⟩,v78⟩,L8 (by omega) (by omega),fun h=>(by subst h;simp at hc17),_,by assumption,rfl,rfl⟩)
  ·refine .q 6 hG ⟨fun hc26 => ?_,fun hc26 => ?_⟩
   ·refine .q 2 hG ?_
    refine .km hG (a4K _ _ _ (by assumption) (by decide)) .z2 (by rintro _ _ ⟨_,_,_,_,_,rfl⟩;exact⟨_,rfl⟩) fun r29 B29 hr29 => ?_
    obtain⟨m29,hm29,d29,hd29,rfl,hB⟩:=hr29
    cases hB
    refine .q 9 hG ?_
    refine⟨_,.r1 a8 (.cell Q2 a8 .z1),?_⟩
    refine⟨_,.cons .z2 (.nil),?_⟩
    first|(exfalso;(try dsimp only at *);omega)|exact⟨⟨4,0,min v39 v41,max v39 v41,⟨[]⟩,0⟩,I4 (by omega) (by omega) (by omega),fun _=>(show(4:Int)≠7 by decide),_,by assumption,rfl,rfl⟩|(obtain rfl:v9=1:=(by assumption);exact⟨_,E5 (Or.inl rfl) (by assumption),fun _=>(show(1:Int)≠7 by decide),_,by assumption,rfl,rfl⟩)|(obtain rfl:v9=2:=(by assumption);exact⟨_,E5 (Or.inr (Or.inl rfl)) (by assumption),fun _=>(show(2:Int)≠7 by decide),_,by assumption,rfl,rfl⟩)|(obtain rfl:v9=3:=(by assumption);exact⟨_,E5 (Or.inr (Or.inr rfl)) (by assumption),fun _=>(show(3:Int)≠7 by decide),_,by assumption,rfl,rfl⟩)|(obtain rfl:v9=4:=(by assumption);exact⟨⟨4,0,min v39 v41,max v39 v41,⟨[]⟩,0⟩,I4 (by omega) (by omega) (by omega),fun _=>(show(4:Int)≠7 by decide),_,by assumption,rfl,rfl⟩)|(obtain rfl:v9=5:=(by assumption);exact⟨⟨5,0,v53,v55,⟨[]⟩,0⟩,K4 (by omega) (by omega) (by omega) (by omega),fun _=>(show(5:Int)≠7 by decide),_,by assumption,rfl,rfl⟩)|(obtain rfl:v9=5:=(by assumption);exact⟨⟨5,0,v53,(v53+v64+1440 - 1) % 1440,⟨[]⟩,0⟩,K4 (by omega) (by omega) (by omega) (by omega),fun _=>(show(5:Int)≠7 by decide),_,by assumption,rfl,rfl⟩)|(obtain rfl:v9=6:=(by assumption);exact⟨_,Q6 (by assumption),fun _=>(show(6:Int)≠7 by decide),_,by assumption,rfl,rfl⟩)|(obtain rfl:v9=7:=(by assumption);exact⟨⟨7,0,0,0,⟨[]⟩,v78⟩,L8 (by omega) (by omega),fun h=>(by subst h;simp at hc17),_,by assumption,rfl,rfl⟩)
   ·refine .q 6 hG ⟨fun hc31 => ?_,fun hc31 => ?_⟩
    ·refine .q 2 hG ?_
     refine .km hG (a4K _ _ _ (by assumption) (by decide)) .z2 (by rintro _ _ ⟨_,_,_,_,_,rfl⟩;exact⟨_,rfl⟩) fun r34 B34 hr34 => ?_
     obtain⟨m34,hm34,d34,hd34,rfl,hB⟩:=hr34
     cases hB
     refine .q 9 hG ?_
     refine⟨_,.r1 a8 (.cell Q2 a8 .z1),?_⟩
     refine⟨_,.cons .z2 (.nil),?_⟩
     first|(exfalso;(try dsimp only at *);omega)|exact⟨⟨4,0,min v39 v41,max v39 v41,⟨[]⟩,0⟩,I4 (by omega) (by omega) (by omega),fun _=>(show(4:Int)≠7 by decide),_,by assumption,rfl,rfl⟩|(obtain rfl:v9=1:=(by assumption);exact⟨_,E5 (Or.inl rfl) (by assumption),fun _=>(show(1:Int)≠7 by decide),_,by assumption,rfl,rfl⟩)|(obtain rfl:v9=2:=(by assumption);exact⟨_,E5 (Or.inr (Or.inl rfl)) (by assumption),fun _=>(show(2:Int)≠7 by decide),_,by assumption,rfl,rfl⟩)|(obtain rfl:v9=3:=(by assumption);exact⟨_,E5 (Or.inr (Or.inr rfl)) (by assumption),fun _=>(show(3:Int)≠7 by decide),_,by assumption,rfl,rfl⟩)|(obtain rfl:v9=4:=(by assumption);exact⟨⟨4,0,min v39 v41,max v39 v41,⟨[]⟩,0⟩,I4 (by omega) (by omega) (by omega),fun _=>(show(4:Int)≠7 by decide),_,by assumption,rfl,rfl⟩)|(obtain rfl:v9=5:=(by assumption);exact⟨⟨5,0,v53,v55,⟨[]⟩,0⟩,K4 (by omega) (by omega) (by omega) (by omega),fun _=>(show(5:Int)≠7 by decide),_,by assumption,rfl,rfl⟩)|(obtain rfl:v9=5:=(by assumption);exact⟨⟨5,0,v53,(v53+v64+1440 - 1) % 1440,⟨[]⟩,0⟩,K4 (by omega) (by omega) (by omega) (by omega),fun _=>(show(5:Int)≠7 by decide),_,by assumption,rfl,rfl⟩)|(obtain rfl:v9=6:=(by assumption);exact⟨_,Q6 (by assumption),fun _=>(show(6:Int)≠7 by decide),_,by assumption,rfl,rfl⟩)|(obtain rfl:v9=7:=(by assumption);exact⟨⟨7,0,0,0,⟨[]⟩,v78⟩,L8 (by omega) (by omega),fun h=>(by subst h;simp at hc17),_,by assumption,rfl,rfl⟩)
    ·refine .q 6 hG ⟨fun hc36 => ?_,fun hc36 => ?_⟩
     ·refine .q 3 hG ?_
      refine .km hG (a0w _ _ (by assumption)) .z2 (by rintro _ _ ⟨_,_,_,_,_,_,rfl⟩;exact⟨_,rfl⟩) fun r39 B39 hr39 => ?_
      obtain⟨v39,h039,h139,d39,hd39,rfl,hB⟩:=hr39
      cases hB
      refine .q 1 hG ?_
      refine .km hG (a0w _ _ (by assumption)) .z2 (by rintro _ _ ⟨_,_,_,_,_,_,rfl⟩;exact⟨_,rfl⟩) fun r41 B41 hr41 => ?_
      obtain⟨v41,h041,h141,d41,hd41,rfl,hB⟩:=hr41
      cases hB
      refine .q 6 hG ?_
      refine .p (.a9V (.t a8) (.t a8) ?_)
      refine .q 2 hG ?_
      refine .p (.b5T (.t a8) (.t a8) ?_)
      refine .q 11 hG ?_
      refine⟨_,.r1 a8 (.cell Q2 a8 .z1),?_⟩
      refine⟨_,.cons .z2 (.nil),?_⟩
      first|(exfalso;(try dsimp only at *);omega)|exact⟨⟨4,0,min v39 v41,max v39 v41,⟨[]⟩,0⟩,I4 (by omega) (by omega) (by omega),fun _=>(show(4:Int)≠7 by decide),_,by assumption,rfl,rfl⟩|(obtain rfl:v9=1:=(by assumption);exact⟨_,E5 (Or.inl rfl) (by assumption),fun _=>(show(1:Int)≠7 by decide),_,by assumption,rfl,rfl⟩)|(obtain rfl:v9=2:=(by assumption);exact⟨_,E5 (Or.inr (Or.inl rfl)) (by assumption),fun _=>(show(2:Int)≠7 by decide),_,by assumption,rfl,rfl⟩)|(obtain rfl:v9=3:=(by assumption);exact⟨_,E5 (Or.inr (Or.inr rfl)) (by assumption),fun _=>(show(3:Int)≠7 by decide),_,by assumption,rfl,rfl⟩)|(obtain rfl:v9=4:=(by assumption);exact⟨⟨4,0,min v39 v41,max v39 v41,⟨[]⟩,0⟩,I4 (by omega) (by omega) (by omega),fun _=>(show(4:Int)≠7 by decide),_,by assumption,rfl,rfl⟩)|(obtain rfl:v9=5:=(by assumption);exact⟨⟨5,0,v53,v55,⟨[]⟩,0⟩,K4 (by omega) (by omega) (by omega) (by omega),fun _=>(show(5:Int)≠7 by decide),_,by assumption,rfl,rfl⟩)|(obtain rfl:v9=5:=(by assumption);exact⟨⟨5,0,v53,(v53+v64+1440 - 1) % 1440,⟨[]⟩,0⟩,K4 (by omega) (by omega) (by omega) (by omega),fun _=>(show(5:Int)≠7 by decide),_,by assumption,rfl,rfl⟩)|(obtain rfl:v9=6:=(by assumption);exact⟨_,Q6 (by assumption),fun _=>(show(6:Int)≠7 by decide),_,by assumption,rfl,rfl⟩)|(obtain rfl:v9=7:=(by assumption);exact⟨⟨7,0,0,0,⟨[]⟩,v78⟩,L8 (by omega) (by omega),fun h=>(by subst h;simp at hc17),_,by assumption,rfl,rfl⟩)
     ·refine .q 6 hG ⟨fun hc50 => ?_,fun hc50 => ?_⟩
      ·refine .q 3 hG ?_
       refine .km hG (F0 _ _ _ (by first|assumption|exact x4 _) (by omega) (by omega)) .z2 (by rintro _ _ ⟨_,_,_,_,_,_,rfl⟩;exact⟨_,rfl⟩) fun r53 B53 hr53 => ?_
       obtain⟨v53,d53,h053,h153,hd53,rfl,hB⟩:=hr53
       cases hB
       refine .q 1 hG ?_
       refine .km hG (F0 _ _ _ (by first|assumption|exact x4 _) (by omega) (by omega)) .z2 (by rintro _ _ ⟨_,_,_,_,_,_,rfl⟩;exact⟨_,rfl⟩) fun r55 B55 hr55 => ?_
       obtain⟨v55,d55,h055,h155,hd55,rfl,hB⟩:=hr55
       cases hB
       refine .q 8 hG ?_
       refine .km hG (F0 _ _ _ (by first|assumption|exact x4 _) (by omega) (by omega)) .z2 (by rintro _ _ ⟨_,_,_,_,_,_,rfl⟩;exact⟨_,rfl⟩) fun r59 B59 hr59 => ?_
       obtain⟨v59,d59,h059,h159,hd59,rfl,hB⟩:=hr59
       cases hB
       refine .q 3 hG ⟨fun hc60 => ?_,fun hc60 => ?_⟩
       ·refine .D7 [j1,j1,j0] (by kernel_rfl) 9 [[],[(61,0)],[],[(63,2)],[(62,1),(64,3)],[(65,4)],[(66,5)],[(67,6)],[]] [3,4,5,6,7] a8 (by kernel_rfl) a8 (by kernel_rfl) (by decide) ?_
        refine⟨_,fun H=>j6.A9 j3.l2 M4 a8 (.t a8) a8,?_⟩
        refine⟨_,fun H=>j6.ldF (fun x=>x.P1) P5 (.t a8) (u4.app .z) (fun _=>a8) a8,?_⟩
        refine⟨_,fun H=>j6.move (.t a8) a8,?_⟩
        refine .inl (.inl (.inl (.inl (.inl ?_))))
        refine⟨_,fun H=>j6.A9 j3.l3 M5 a8 (.t a8) a8,?_⟩
        refine⟨⟨([],j2 [c8,c8,_]),a8⟩,?_⟩
        refine A0.a1m hG (F0 _ _ _ (by first|assumption|exact x4 _) (by omega) (by omega)) .z2 (.cons (.t rfl) (.cons (.i rfl) .nil)) (by rintro _ _ ⟨_,_,_,_,_,_,rfl⟩;exact⟨_,rfl⟩) fun r64 B64 hr64 => ?_
        obtain⟨v64,d64,h064,h164,hd64,rfl,hB⟩:=hr64
        cases hB
        refine⟨⟨([],j2 [c8,c8,_]),a8⟩,?_⟩
        refine A0.ofP (j6.add (.t rfl) (.t rfl) (by simp<;>omega) (by simp<;>omega) ?_)
        refine⟨⟨([],j2 [c8,c8,_]),a8⟩,?_⟩
        refine A0.ofP (j6.add (.t rfl) (.i rfl) (by simp<;>omega) (by simp<;>omega) ?_)
        refine⟨⟨([],j2 [c8,c8,_]),a8⟩,?_⟩
        refine A0.ofP (j6.sub (.t rfl) (.i rfl) (by simp<;>omega) (by simp<;>omega) ?_)
        refine⟨⟨([],j2 [c8,c8,_]),a8⟩,?_⟩
        refine A0.ofP (j6.rem (.t rfl) (.i rfl) (by simp<;>omega) (by omega) ?_)
        refine⟨⟨([],j2 [c8,c8,_]),a8⟩,?_⟩
        show D0 _ _ _ _ _ [_] ((69,_)::(68,_)::(67,_)::(66,_)::(65,_)::(64,_)::(63,_)::(62,_)::(61,_)::_) _
        refine .q 8 hG ?_
        refine⟨_,.r1 a8 (.cell Q2 a8 .z1),?_⟩
        refine⟨_,.cons .z2 (.nil),?_⟩
        first|(exfalso;(try dsimp only at *);omega)|exact⟨⟨4,0,min v39 v41,max v39 v41,⟨[]⟩,0⟩,I4 (by omega) (by omega) (by omega),fun _=>(show(4:Int)≠7 by decide),_,by assumption,rfl,rfl⟩|(obtain rfl:v9=1:=(by assumption);exact⟨_,E5 (Or.inl rfl) (by assumption),fun _=>(show(1:Int)≠7 by decide),_,by assumption,rfl,rfl⟩)|(obtain rfl:v9=2:=(by assumption);exact⟨_,E5 (Or.inr (Or.inl rfl)) (by assumption),fun _=>(show(2:Int)≠7 by decide),_,by assumption,rfl,rfl⟩)|(obtain rfl:v9=3:=(by assumption);exact⟨_,E5 (Or.inr (Or.inr rfl)) (by assumption),fun _=>(show(3:Int)≠7 by decide),_,by assumption,rfl,rfl⟩)|(obtain rfl:v9=4:=(by assumption);exact⟨⟨4,0,min v39 v41,max v39 v41,⟨[]⟩,0⟩,I4 (by omega) (by omega) (by omega),fun _=>(show(4:Int)≠7 by decide),_,by assumption,rfl,rfl⟩)|(obtain rfl:v9=5:=(by assumption);exact⟨⟨5,0,v53,v55,⟨[]⟩,0⟩,K4 (by omega) (by omega) (by omega) (by omega),fun _=>(show(5:Int)≠7 by decide),_,by assumption,rfl,rfl⟩)|(obtain rfl:v9=5:=(by assumption);exact⟨⟨5,0,v53,(v53+v64+1440 - 1) % 1440,⟨[]⟩,0⟩,K4 (by omega) (by omega) (by omega) (by omega),fun _=>(show(5:Int)≠7 by decide),_,by assumption,rfl,rfl⟩)|(obtain rfl:v9=6:=(by assumption);exact⟨_,Q6 (by assumption),fun _=>(show(6:Int)≠7 by decide),_,by assumption,rfl,rfl⟩)|(obtain rfl:v9=7:=(by assumption);exact⟨⟨7,0,0,0,⟨[]⟩,v78⟩,L8 (by omega) (by omega),fun h=>(by subst h;simp at hc17),_,by assumption,rfl,rfl⟩)
       ·refine .q 7 hG ?_
        refine⟨_,.r1 a8 (.cell Q2 a8 .z1),?_⟩
        refine⟨_,.cons .z2 (.nil),?_⟩
        first|(exfalso;(try dsimp only at *);omega)|exact⟨⟨4,0,min v39 v41,max v39 v41,⟨[]⟩,0⟩,I4 (by omega) (by omega) (by omega),fun _=>(show(4:Int)≠7 by decide),_,by assumption,rfl,rfl⟩|(obtain rfl:v9=1:=(by assumption);exact⟨_,E5 (Or.inl rfl) (by assumption),fun _=>(show(1:Int)≠7 by decide),_,by assumption,rfl,rfl⟩)|(obtain rfl:v9=2:=(by assumption);exact⟨_,E5 (Or.inr (Or.inl rfl)) (by assumption),fun _=>(show(2:Int)≠7 by decide),_,by assumption,rfl,rfl⟩)|(obtain rfl:v9=3:=(by assumption);exact⟨_,E5 (Or.inr (Or.inr rfl)) (by assumption),fun _=>(show(3:Int)≠7 by decide),_,by assumption,rfl,rfl⟩)|(obtain rfl:v9=4:=(by assumption);exact⟨⟨4,0,min v39 v41,max v39 v41,⟨[]⟩,0⟩,I4 (by omega) (by omega) (by omega),fun _=>(show(4:Int)≠7 by decide),_,by assumption,rfl,rfl⟩)|(obtain rfl:v9=5:=(by assumption);exact⟨⟨5,0,v53,v55,⟨[]⟩,0⟩,K4 (by omega) (by omega) (by omega) (by omega),fun _=>(show(5:Int)≠7 by decide),_,by assumption,rfl,rfl⟩)|(obtain rfl:v9=5:=(by assumption);exact⟨⟨5,0,v53,(v53+v64+1440 - 1) % 1440,⟨[]⟩,0⟩,K4 (by omega) (by omega) (by omega) (by omega),fun _=>(show(5:Int)≠7 by decide),_,by assumption,rfl,rfl⟩)|(obtain rfl:v9=6:=(by assumption);exact⟨_,Q6 (by assumption),fun _=>(show(6:Int)≠7 by decide),_,by assumption,rfl,rfl⟩)|(obtain rfl:v9=7:=(by assumption);exact⟨⟨7,0,0,0,⟨[]⟩,v78⟩,L8 (by omega) (by omega),fun h=>(by subst h;simp at hc17),_,by assumption,rfl,rfl⟩)
      ·refine .q 6 hG ⟨fun hc70 => ?_,fun hc70 => ?_⟩
       ·refine .q 2 hG ?_
        refine .km hG (b3W _ _ (by assumption)) .z2 (by rintro _ _ ⟨_,_,_,_,_,rfl⟩;exact⟨_,rfl⟩) fun r73 B73 hr73 => ?_
        obtain⟨s73,hs73,d73,hd73,rfl,hB⟩:=hr73
        cases hB
        refine .q 9 hG ?_
        refine⟨_,.r1 a8 (.cell Q2 a8 .z1),?_⟩
        refine⟨_,.cons .z2 (.nil),?_⟩
        first|(exfalso;(try dsimp only at *);omega)|exact⟨⟨4,0,min v39 v41,max v39 v41,⟨[]⟩,0⟩,I4 (by omega) (by omega) (by omega),fun _=>(show(4:Int)≠7 by decide),_,by assumption,rfl,rfl⟩|(obtain rfl:v9=1:=(by assumption);exact⟨_,E5 (Or.inl rfl) (by assumption),fun _=>(show(1:Int)≠7 by decide),_,by assumption,rfl,rfl⟩)|(obtain rfl:v9=2:=(by assumption);exact⟨_,E5 (Or.inr (Or.inl rfl)) (by assumption),fun _=>(show(2:Int)≠7 by decide),_,by assumption,rfl,rfl⟩)|(obtain rfl:v9=3:=(by assumption);exact⟨_,E5 (Or.inr (Or.inr rfl)) (by assumption),fun _=>(show(3:Int)≠7 by decide),_,by assumption,rfl,rfl⟩)|(obtain rfl:v9=4:=(by assumption);exact⟨⟨4,0,min v39 v41,max v39 v41,⟨[]⟩,0⟩,I4 (by omega) (by omega) (by omega),fun _=>(show(4:Int)≠7 by decide),_,by assumption,rfl,rfl⟩)|(obtain rfl:v9=5:=(by assumption);exact⟨⟨5,0,v53,v55,⟨[]⟩,0⟩,K4 (by omega) (by omega) (by omega) (by omega),fun _=>(show(5:Int)≠7 by decide),_,by assumption,rfl,rfl⟩)|(obtain rfl:v9=5:=(by assumption);exact⟨⟨5,0,v53,(v53+v64+1440 - 1) % 1440,⟨[]⟩,0⟩,K4 (by omega) (by omega) (by omega) (by omega),fun _=>(show(5:Int)≠7 by decide),_,by assumption,rfl,rfl⟩)|(obtain rfl:v9=6:=(by assumption);exact⟨_,Q6 (by assumption),fun _=>(show(6:Int)≠7 by decide),_,by assumption,rfl,rfl⟩)|(obtain rfl:v9=7:=(by assumption);exact⟨⟨7,0,0,0,⟨[]⟩,v78⟩,L8 (by omega) (by omega),fun h=>(by subst h;simp at hc17),_,by assumption,rfl,rfl⟩)
       ·refine .q 6 hG ⟨fun hc75 => ?_,fun hc75 => ?_⟩
        ·refine .q 2 hG ?_
         refine .km hG (c2o _ _ _ (by assumption) (by decide) (by decide)) .z2 (by rintro _ _ ⟨_,_,_,_,_,_,rfl⟩;exact⟨_,rfl⟩) fun r78 B78 hr78 => ?_
         obtain⟨v78,h078,h178,d78,hd78,rfl,hB⟩:=hr78
         cases hB
         refine .q 9 hG ?_
         refine⟨_,.r1 a8 (.cell Q2 a8 .z1),?_⟩
         refine⟨_,.cons .z2 (.nil),?_⟩
         first|(exfalso;(try dsimp only at *);omega)|exact⟨⟨4,0,min v39 v41,max v39 v41,⟨[]⟩,0⟩,I4 (by omega) (by omega) (by omega),fun _=>(show(4:Int)≠7 by decide),_,by assumption,rfl,rfl⟩|(obtain rfl:v9=1:=(by assumption);exact⟨_,E5 (Or.inl rfl) (by assumption),fun _=>(show(1:Int)≠7 by decide),_,by assumption,rfl,rfl⟩)|(obtain rfl:v9=2:=(by assumption);exact⟨_,E5 (Or.inr (Or.inl rfl)) (by assumption),fun _=>(show(2:Int)≠7 by decide),_,by assumption,rfl,rfl⟩)|(obtain rfl:v9=3:=(by assumption);exact⟨_,E5 (Or.inr (Or.inr rfl)) (by assumption),fun _=>(show(3:Int)≠7 by decide),_,by assumption,rfl,rfl⟩)|(obtain rfl:v9=4:=(by assumption);exact⟨⟨4,0,min v39 v41,max v39 v41,⟨[]⟩,0⟩,I4 (by omega) (by omega) (by omega),fun _=>(show(4:Int)≠7 by decide),_,by assumption,rfl,rfl⟩)|(obtain rfl:v9=5:=(by assumption);exact⟨⟨5,0,v53,v55,⟨[]⟩,0⟩,K4 (by omega) (by omega) (by omega) (by omega),fun _=>(show(5:Int)≠7 by decide),_,by assumption,rfl,rfl⟩)|(obtain rfl:v9=5:=(by assumption);exact⟨⟨5,0,v53,(v53+v64+1440 - 1) % 1440,⟨[]⟩,0⟩,K4 (by omega) (by omega) (by omega) (by omega),fun _=>(show(5:Int)≠7 by decide),_,by assumption,rfl,rfl⟩)|(obtain rfl:v9=6:=(by assumption);exact⟨_,Q6 (by assumption),fun _=>(show(6:Int)≠7 by decide),_,by assumption,rfl,rfl⟩)|(obtain rfl:v9=7:=(by assumption);exact⟨⟨7,0,0,0,⟨[]⟩,v78⟩,L8 (by omega) (by omega),fun h=>(by subst h;simp at hc17),_,by assumption,rfl,rfl⟩)
        ·refine .q 7 hG ?_
         refine⟨_,.r1 a8 (.cell Q2 a8 .z1),?_⟩
         refine⟨_,.cons .z2 (.nil),?_⟩
         first|(exfalso;(try dsimp only at *);omega)|exact⟨⟨4,0,min v39 v41,max v39 v41,⟨[]⟩,0⟩,I4 (by omega) (by omega) (by omega),fun _=>(show(4:Int)≠7 by decide),_,by assumption,rfl,rfl⟩|(obtain rfl:v9=1:=(by assumption);exact⟨_,E5 (Or.inl rfl) (by assumption),fun _=>(show(1:Int)≠7 by decide),_,by assumption,rfl,rfl⟩)|(obtain rfl:v9=2:=(by assumption);exact⟨_,E5 (Or.inr (Or.inl rfl)) (by assumption),fun _=>(show(2:Int)≠7 by decide),_,by assumption,rfl,rfl⟩)|(obtain rfl:v9=3:=(by assumption);exact⟨_,E5 (Or.inr (Or.inr rfl)) (by assumption),fun _=>(show(3:Int)≠7 by decide),_,by assumption,rfl,rfl⟩)|(obtain rfl:v9=4:=(by assumption);exact⟨⟨4,0,min v39 v41,max v39 v41,⟨[]⟩,0⟩,I4 (by omega) (by omega) (by omega),fun _=>(show(4:Int)≠7 by decide),_,by assumption,rfl,rfl⟩)|(obtain rfl:v9=5:=(by assumption);exact⟨⟨5,0,v53,v55,⟨[]⟩,0⟩,K4 (by omega) (by omega) (by omega) (by omega),fun _=>(show(5:Int)≠7 by decide),_,by assumption,rfl,rfl⟩)|(obtain rfl:v9=5:=(by assumption);exact⟨⟨5,0,v53,(v53+v64+1440 - 1) % 1440,⟨[]⟩,0⟩,K4 (by omega) (by omega) (by omega) (by omega),fun _=>(show(5:Int)≠7 by decide),_,by assumption,rfl,rfl⟩)|(obtain rfl:v9=6:=(by assumption);exact⟨_,Q6 (by assumption),fun _=>(show(6:Int)≠7 by decide),_,by assumption,rfl,rfl⟩)|(obtain rfl:v9=7:=(by assumption);exact⟨⟨7,0,0,0,⟨[]⟩,v78⟩,L8 (by omega) (by omega),fun h=>(by subst h;simp at hc17),_,by assumption,rfl,rfl⟩)
theorem a5o (w:Value) (d:m5) (hd:G1 d):E4 gl prog 33 [dk w] [.ob w d] (fun r Hs=>∃ c:Cav,∃ d',G1 d'∧r = .v c∧Hs = [.ob w d']):=by
 refine E4.P8 func33 rfl (by kernel_rfl) 20 rfl rfl _ rfl _ rfl fun C hC hG => ?_
 refine .q 3 hG fun b2 => ?_
 refine .q 5 hG ?_
 refine .km hG (F0 _ _ _ (by first|assumption|exact x4 _) (by omega) (by omega)) .z1 (by rintro _ _ ⟨_,_,_,_,_,_,rfl⟩;exact⟨_,rfl⟩) fun r4 B4 hr4 => ?_
 obtain⟨v4,d4,h04,h14,hd4,rfl,hB⟩:=hr4
 cases hB
 refine .q 3 hG ⟨fun hc5 => ?_,fun hc5 => ?_⟩
 ·refine .q 3 hG ?_
  refine .km hG (R5 _ _ _ (by assumption)) .z1 (by rintro _ _ ⟨_,_,_,_,_,_,rfl⟩;exact⟨_,rfl⟩) fun r7 B7 hr7 => ?_
  obtain⟨p7,hp7,hk7,d7,hd7,rfl,hB⟩:=hr7
  cases hB
  refine .p (.bS1 o5.l1 a8 a1v b9J (fun c1=>(⟨false,c1,0,[],[]⟩:o5)) (fun _=>a8) a8 a8 (.t a8) ?_)
  refine .q 3 hG ?_
  refine⟨_,.r1 a8 (.cell a1v a8 .z),?_⟩
  refine⟨_,.cons .z1 (.nil),?_⟩
  exact⟨_,_,by assumption,rfl,rfl⟩
 ·refine .q 4 hG ?_
  refine .km hG (F0 _ _ _ (by first|assumption|exact x4 _) (by omega) (by omega)) .z1 (by rintro _ _ ⟨_,_,_,_,_,_,rfl⟩;exact⟨_,rfl⟩) fun r10 B10 hr10 => ?_
  obtain⟨v10,d10,h010,h110,hd10,rfl,hB⟩:=hr10
  cases hB
  refine .q 1 hG ?_
  refine .h (.b8j hG (a9x _ _ _ (by first|assumption|exact x4 _) (by omega) (by omega)) .z1 (.cons (.t a8) (.cons (.i a8) .nil)) (by rintro _ _ ⟨_,_,_,_,_,_,rfl⟩;exact⟨_,_,rfl⟩) fun r12 Bn12 B12 hr12 => ?_)
  obtain⟨u12,l12,hl12,d12,hd12,rfl,hB⟩:=hr12
  cases hB
  show D0 _ _ _ _ _ _ _ ((true,_)::_)
  refine .bs a8 (by decide) fun b13 => ?_
  refine .ap (by simp<;>omega) (by simp<;>omega) fun w14 => ?_
  refine .q 1 hG ?_
  refine .h (.b8j hG (a9x _ _ _ (by first|assumption|exact x4 _) (by omega) (by omega)) .z3 (.cons (.t a8) (.cons (.i a8) .nil)) (by rintro _ _ ⟨_,_,_,_,_,_,rfl⟩;exact⟨_,_,rfl⟩) fun r16 Bn16 B16 hr16 => ?_)
  obtain⟨u16,l16,hl16,d16,hd16,rfl,hB⟩:=hr16
  cases hB
  show D0 _ _ _ _ _ _ _ ((true,_)::_)
  refine .bs a8 (by decide) fun b17 => ?_
  refine .ap (by simp<;>omega) (by simp<;>omega) fun w18 => ?_
  refine .u0 hC .z3 (.as 14 a8 .z3 (.u0 hC .z1 (.as 18 a8 .z1 (.p (.bS4 o5.l0 o5.l2 o5.l3 o5.l4 a8 a1v b9J (fun c0 c2 c3 c4=>(⟨c0,default,c2,c3,c4⟩:o5)) (fun _ _ _ _=>a8) a8 a8 a8 a8 a8 .b (.t a8) (.t a8) (.t a8) ?_)))))
  refine .q 3 hG ?_
  refine⟨_,.r1 a8 (.cell a1v a8 .z4),?_⟩
  refine⟨_,.cons .z5 (.nil),?_⟩
  exact⟨_,_,by assumption,rfl,rfl⟩
abbrev Pass:=x6
abbrev Dis:=p6
abbrev c2r:=C3
abbrev b0I:=u9
def a0U {α β:Type} [Inhabited β] (r:C9×α×Int) (f:C9→α→C9×β×Int):C9×β×Int:=if r.2.2=0 then f r.1 r.2.1 else (default,default,r.2.2)
theorem F6 {α β:Type} [Inhabited β] {r:C9×α×Int} (h:r.2.2=0) (f:C9→α→C9×β×Int):a0U r f=f r.1 r.2.1:=if_pos h
theorem Q1 {α β:Type} [Inhabited β] {r:C9×α×Int} (h:¬r.2.2=0) (f:C9→α→C9×β×Int):a0U r f=(default,default,r.2.2):=if_neg h
def a5p (a:C9) (k:Tag) (m:List UInt8):C9×Tag×Int:=a0U (G9 a k m) fun b t=>a0U (G9 b t F8) fun c _=>(c,t,0)
def a7q (a:C9) (root:u7) (n:Int):C9×Pass×Int :=
 if J7 root.Number n=false then (default,default,1) else a0U (a5p a root.Key (a1b n)) fun b t=>(b,⟨root.Number,n,[],t⟩,0)
def a6p (p:Pass) (c:Cav):Bool:=decide (64≤p.j8.length)||(c.Q9&&decide (8≤a1a p.j8))
def a4j (a:C9) (p:Pass) (c:Cav):C9×Pass×Int :=
 if I5 c=false then (default,default,5) else if a6p p c then (default,default,2) else
 a0U (a5p a p.Tag (a2D c)) fun b t=>(b,⟨p.D3,p.A6,p.j8 ++ [c],t⟩,0)
def a0C (t:B0):Bool:=decide (0≤t.a3u)&&decide (t.a3u≤t.a6M)&&decide (t.a6M≤150)
def Z7 (k:Tag) (t:B0):List UInt8:=k.l++J6 t.a3u.toNat++J6 t.a6M.toNat
def a32 (a:C9) (c:b0I) (t:B0):C9×c2r×Int :=
 if (a0C t&&decide (0≤c.G7)&&decide (c.G7≤7))=false then (default,default,1) else
 a0U (Q4 a) fun b k=>a0U (Q5 b c.Key b.F7 (Z7 k t)) fun d x=>(d,⟨c.G7,k,x⟩,0)
def b2h (a:C9) (p:Pass) (b:c2r):C9×Pass×Int :=
 a0U (G9 a p.Tag (D1 b.l9)) fun a t=>a0U (Q5 a t 0 b.Key.l) fun a x=>a4j a p ⟨true,default,b.G7,b.l9,x⟩
def S9 (a:C9) (d:Dis) (p:Pred):C9×Dis×Int :=
 if y5 p=false then (default,default,5) else if p.Kind=7 then (default,default,6) else if 8≤d.l8.length then (default,default,2) else
 a0U (G9 a d.Tag (W5 p)) fun b t=>(b,⟨d.l9,d.l8 ++ [p],t⟩,0)
def a2Y (s:Y4):Pred:=⟨6,0,0,0,s,0⟩
def a5Q (a:C9) (k:Tag) (t:List UInt8) (s:Y4):C9×Dis×Int:=a0U (G9 a k (a0v t)) fun b x=>S9 b ⟨t,[],x⟩ (a2Y s)
def a1f (a:C9) (p:Pass):List Pred→C9×Pass×Int
 | []=>(a,p,0)
 | x::l=>a0U (a4j a p ⟨false,x,0,[],[]⟩) fun b q=>a1f b q l
def a2E (a:C9) (d:Dis) (leaf:Tag) (r:Rq):C9×Bnd×Int :=
 if U5 r=false then (default,default,1) else a0U (G9 a d.Tag (W6 leaf r)) fun b t=>(b,⟨d.l9,d.l8,t⟩,0)
def a2F (leaf:Tag) (r:Rq) (a:C9):List Dis→C9×List Bnd×Int
 | []=>(a,[],0)
 | d::l=>a0U (a2E a d leaf r) fun b x=>a0U (a2F leaf r b l) fun c y=>(c,x::y,0)
def b8v (p:Pass) (l:List Dis) (r:Rq):P9:=⟨r,p.D3,p.A6,p.j8,default,l.map fun d=>⟨d.l9,d.l8,default⟩⟩
theorem b5s (b:List UInt8):p4 gl prog 188 [.v b] (fun r=>r = .v (decide (1≤b.length)&&decide (b.length≤1024))):=by
 refine p4.jn func188 (by kernel_rfl) 11 rfl fun C hC hG => ?_
 refine .q 17 hG ?_
 refine .e1 a8 a8 ?_
 refine congrArg AV.v ?_;congr 1<;>(rw [decide_eq_decide];omega)
theorem a8G (c:Cav):p4 gl prog 149 [.v c] (fun r=>r = .v (I5 c)):=by
 refine p4.jn func149 (by kernel_rfl) 50 rfl fun C hC hG => ?_
 refine .q 3 hG fun b1 => ?_
 refine .q 4 hG ?_
 refine .y6 hC .z (.L6 1 a8 .z ?_)
 refine .q 5 hG ?_
 refine .cond (.t a8) (fun hc5 => ?_) (fun hc5 => ?_)
 ·refine .q 4 hG ?_
  refine .k hG (a1W _) ?_
  refine .q 20 hG ?_
  refine .e1 a8 a8 ?_
  refine congrArg AV.v ?_
  unfold I5
  simp_all
 ·refine .q 5 hG ?_
  refine .p (.bS0 (α:=j3) a8 Q2 a6G (.p (.a14 X4 (by decide) a8 (by kernel_rfl) (.t a8) (.t a8) ?_)))
  refine .q 13 hG ?_
  refine .kg hG (b5s _) ?_
  refine .q 4 hG ?_
  refine .kg hG (b5s _) ?_
  refine .q 4 hG ?_
  refine .e1 a8 a8 ?_
  refine congrArg AV.v ?_
  unfold I5
  simp_all
theorem c3L (n:Nat):decide ((1:Int)≤(n:Int))=decide (1≤n):=decide_eq_decide.2 (by omega)
theorem b5t (n:Nat):decide ((n:Int)≤1024)=decide (n≤1024):=decide_eq_decide.2 (by omega)
theorem a1E {c:Cav} (h:I5 c=true):W4 c=(E8 c,0):=by unfold W4;rw [if_pos h]
theorem a45 {c:Cav} (h:¬I5 c=true):W4 c=([],5):=by unfold W4;rw [if_neg h]
theorem a4L (c:Cav):p4 gl prog 166 [.v c] (fun r=>r = .v (I5 c)):=by
 refine p4.jn func166 (by kernel_rfl) 64 rfl fun C hC hG => ?_
 refine .q 3 hG fun b1 => ?_
 refine .q 4 hG ?_
 refine .y6 hC .z (.L6 1 a8 .z ?_)
 refine .q 5 hG ?_
 refine .cond (.t a8) (fun hc5 => ?_) (fun hc5 => ?_)
 ·refine .q 4 hG ?_
  refine .k hG (a0f _) ?_
  refine .q 20 hG ?_
  refine .e1 a8 a8 ?_
  refine congrArg AV.v ?_
  unfold I5
  (try simp only [c3L,b5t])
  simp_all [Bool.and_assoc]
 ·refine .q 5 hG ?_
  refine .p (.bS0 (α:=j3) a8 Q2 a6G (.p (.a14 X4 (by decide) a8 (by kernel_rfl) (.t a8) (.t a8) ?_)))
  refine .q 37 hG ?_
  refine .e1 a8 a8 ?_
  refine congrArg AV.v ?_
  unfold I5
  (try simp only [c3L,b5t])
  simp_all [Bool.and_assoc]
theorem a7r (l:List Cav) (hl:l.length≤1000000):p4 gl prog 59 [.v l] (fun r=>r = .v (a0h l)):=by
 refine p4.jn func59 (by kernel_rfl) 22 rfl fun C hC hG => ?_
 refine .q 6 hG ?_
 refine .p (.assign .raw ?_)
 refine .q 3 hG ?_
 refine .a0H 97 Pred ?_
 refine .q 6 hG ?_
 refine .D8 (α:=Nat×Value) [(6,_),(7,_)] (fun x R=>(3,.raw x.2)::(8,.v (x.1:Int))::R) (fun x => [(true,.own 97 x.2 (a0h (l.take x.1)))]) (fun x=>x.1≤l.length) (fun x=>l.length - x.1) ((0,.slice none 0 0)) (.c2 a8 a8 (.nil _)) ?_ (.c2 a8 a8 (.c2 a8 a8 (.nil _))) (a8) fun x hF => ?_
 ·simp
 obtain⟨k,w⟩:=x
 dsimp only at hF ⊢
 have hfl:(a0h (l.take k)).length≤1000000:=Nat.le_trans (a0Q _) (by simp;omega)
 refine .q 6 hG ⟨fun hc9 => ?_,fun hc9 => ?_⟩
 ·refine .q 5 hG ?_
  refine .ix (by omega) (by omega) ?_
  refine .q 2 hG fun b5 => ?_
  refine .q 3 hG ?_
  refine .y6 hC .z (.L6 5 a8 .z (.drop ?_))
  refine .q 5 hG ?_
  refine .cond (.t a8) (fun hc14 => ?_) (fun hc14 => ?_)
  ·refine .q 4 hG ?_
   refine .bs a8 (by decide) fun b18 => ?_
   refine .ap (by simp<;>omega) (by simp<;>omega) fun w19 => ?_
   refine .q 1 hG ?_
   refine .drop ?_
   refine .q 2 hG ?_
   refine .ad (by omega) (by omega) ?_
   refine .q 2 hG ?_
   refine⟨(k+1,_),.c2 rfl rfl (.c2 rfl rfl (.nil _)),congrArg (fun q => [(true,D6.own _ _ q)]) (by dsimp only;rw [a2f l k (by omega)];simp_all),?_,by dsimp only;omega⟩
   dsimp only;omega
  ·refine .q 2 hG ?_
   refine .ad (by omega) (by omega) ?_
   refine .q 2 hG ?_
   refine⟨(k+1,_),.c2 rfl rfl (.c2 rfl rfl (.nil _)),congrArg (fun q => [(true,D6.own _ _ q)]) (by dsimp only;rw [a2f l k (by omega)];simp_all),?_,by dsimp only;omega⟩
   dsimp only;omega
 ·refine .q 2 hG ?_
  refine .u0 hC .z (.as 3 a8 .z ?_)
  refine .q 5 hG ?_
  refine .e1 a8 a8 ?_
  refine congrArg AV.v ?_
  rw [List.take_of_length_le (by omega)]
theorem a9F (l:List Cav) (hl:l.length≤1000000):p4 gl prog 26 [.v l] (fun r=>r = .v (a0h l)):=by
 refine p4.jn func26 (by kernel_rfl) 26 rfl fun C hC hG => ?_
 refine .q 6 hG ?_
 refine .p (.assign .raw ?_)
 refine .q 3 hG ?_
 refine .a0H 97 Pred ?_
 refine .q 4 hG ?_
 refine .D8 (α:=Nat×Value) [(0,_)] (fun x R=>(3,.raw x.2)::(4,.v (x.1:Int))::R) (fun x => [(true,.own 97 x.2 (a0h (l.take x.1)))]) (fun x=>x.1≤l.length) (fun x=>l.length - x.1) ((0,.slice none 0 0)) (.cons a8 (.nil _)) ?_ (.c2 a8 a8 (.cons a8 (.nil _))) (a8) fun x hF => ?_
 ·simp
 obtain⟨k,w⟩:=x
 dsimp only at hF ⊢
 have hfl:(a0h (l.take k)).length≤1000000:=Nat.le_trans (a0Q _) (by simp;omega)
 refine .q 9 hG ⟨fun hc8 => ?_,fun hc8 => ?_⟩
 ·refine .q 7 hG ?_
  refine .ix (by omega) (by omega) ?_
  refine .q 4 hG ?_
  refine .cond (.t a8) (fun hc16 => ?_) (fun hc16 => ?_)
  ·refine .q 4 hG ?_
   refine .ix (by omega) (by omega) ?_
   refine .q 2 hG ?_
   refine .bs a8 (by decide) fun b23 => ?_
   refine .ap (by simp<;>omega) (by simp<;>omega) fun w24 => ?_
   refine .q 1 hG ?_
   refine .drop ?_
   refine .q 3 hG ?_
   refine .ad (by omega) (by omega) ?_
   refine .q 2 hG ?_
   refine⟨(k+1,_),.c2 rfl rfl (.cons rfl (.nil _)),congrArg (fun q => [(true,D6.own _ _ q)]) (by dsimp only;rw [a2f l k (by omega)];simp_all),?_,by dsimp only;omega⟩
   dsimp only;omega
  ·refine .q 3 hG ?_
   refine .ad (by omega) (by omega) ?_
   refine .q 2 hG ?_
   refine⟨(k+1,_),.c2 rfl rfl (.cons rfl (.nil _)),congrArg (fun q => [(true,D6.own _ _ q)]) (by dsimp only;rw [a2f l k (by omega)];simp_all),?_,by dsimp only;omega⟩
   dsimp only;omega
 ·refine .q 2 hG ?_
  refine .u0 hC .z (.as 3 a8 .z ?_)
  refine .q 5 hG ?_
  refine .e1 a8 a8 ?_
  refine congrArg AV.v ?_
  rw [List.take_of_length_le (by omega)]
theorem a9G (l:List Cav) (hl:l.length≤1000000):p4 gl prog 105 [.v l] (fun r=>r = .v (a1a l)):=by
 refine p4.jn func105 (by kernel_rfl) 9 rfl fun C hC hG => ?_
 refine .q 5 hG ?_
 have hfl:=a0Q l
 refine .q 4 hG ?_
 refine .k hG (a9F _ hl) ?_
 refine .q 1 hG ?_
 refine .sb (by omega) (by omega) ?_
 refine .q 3 hG ?_
 refine .e1 a8 a8 ?_
 rfl
theorem b2i (l:List Cav):p4 gl prog 106 [.v l] (fun r=>r = .v (l.all I5)):=by
 refine p4.jn func106 (by kernel_rfl) 16 rfl fun C hC hG => ?_
 refine .q 6 hG ?_
 refine .T3 0 a8 fun hl => ?_
 refine .q 4 hG ?_
 refine .D8 (α:=Nat) [(0,_)] (fun k R=>(3,.v (k:Int))::R) (fun k => []) (fun k=>k≤l.length∧(l.take k).all I5=true) (fun k=>l.length - k) (0) (.cons a8 (.nil _)) ?_ (.c2 a8 a8 (.nil _)) (a8) fun k hF => ?_
 ·simp
 obtain⟨h1,h2⟩:=hF
 refine .q 9 hG ⟨fun hc7 => ?_,fun hc7 => ?_⟩
 ·refine .q 7 hG ?_
  refine .ix (by omega) (by omega) ?_
  refine .q 1 hG ?_
  refine .k hG (a4L _) ?_
  refine .q 2 hG ?_
  refine .cond (.t a8) (fun hc15 => ?_) (fun hc15 => ?_)
  ·refine .q 5 hG ?_
   refine .e1 a8 a8 ?_
   refine congrArg AV.v (Eq.symm ?_)
   rw [b0v I5 l k (by omega)]
   simp_all
  ·refine .q 3 hG ?_
   refine .ad (by omega) (by omega) ?_
   refine .q 2 hG ?_
   refine⟨k+1,.c2 rfl rfl (.nil _),rfl,?_,by omega⟩
   refine⟨by omega,?_⟩;rw [all_succ _ _ _ (by omega),h2];simpa using hc15
 ·refine .q 6 hG ?_
  refine .e1 a8 a8 ?_
  refine congrArg AV.v (Eq.symm ?_)
  rw [List.take_of_length_le (by omega)] at h2
  exact h2
theorem b2j (c:Cav):p4 gl prog 91 [.v c] (fun r=>r = .t2 (.v (W4 c).1) (.v (W4 c).2)):=by
 refine p4.jn func91 (by kernel_rfl) 52 rfl fun C hC hG => ?_
 refine .q 3 hG fun b1 => ?_
 refine .q 5 hG ?_
 refine .y6 hC .z (.L6 1 a8 .z ?_)
 refine .q 2 hG ?_
 refine .k hG (a8G _) ?_
 refine .q 2 hG ?_
 refine .cond (.t a8) (fun hc12 => ?_) (fun hc12 => ?_)
 ·refine .q 6 hG ?_
  refine .e2 a8 a8 a8 ?_
  rw [a45 (by simpa using hc12)]
 ·refine .q 3 hG ?_
  have hco:I5 c=true:=by simpa using hc12
  refine .q 5 hG ?_
  refine .cond (.t a8) (fun hc15 => ?_) (fun hc15 => ?_)
  ·refine .q 4 hG ?_
   refine .k hG (a6V _) ?_
   refine .q 7 hG ?_
   have h15:c.Q9=false:=by simpa using hc15
   obtain⟨hpo,-⟩:=a2W hco h15
   have hpl:=H5 (O1 hpo)
   rw [y0 hpo]
   refine .q 1 hG ?_
   refine .bs a8 (by decide) fun b22 => ?_
   refine .q 1 hG ?_
   refine .ap (by simp<;>omega) (by simp<;>omega) fun w24 => ?_
   refine .q 4 hG ?_
   refine .u0 hC .z (.as 2 a8 .z ?_)
   refine .q 1 hG ?_
   refine .e2 a8 a8 a8 ?_
   rw [a1E hco]
   unfold E8
   rw [h15]
   rfl
  ·refine .q 2 hG ?_
   obtain⟨g1,g2,g3,g4,g5,g6,g7⟩:=a2V hco (by simpa using hc15)
   have hn:=B1 (n:=c.G7.toNat) (by omega)
   refine .q 1 hG ?_
   refine .bs a8 (by decide) fun b27=>(.u0 hC .z (.as 27 a8 .z ?_))
   refine .q 2 hG ?_
   refine .p (.o8 hG ((a1x _ _ (by simp) (by omega) (by omega)).b8k) (.cons (.t a8) (.cons (.t a8) .nil)) ?_)
   refine .q 13 hG ?_
   refine .p (.M8 (⟨[_,_],a8⟩:(I8 2 (List UInt8))) c3y c1d (.cons (j9.idx 0 (by decide)) _ a8 (.t a8) (.cons (j9.idx 1 (by decide)) _ a8 (.t a8) .nil)) a8 ?_)
   refine .q 3 hG ?_
   refine .D8 (α:=Nat×List UInt8) [(37,_)] (fun x R=>(6,.v x.2)::(7,.v (0:Int))::(38,.v (x.1:Int))::R) (Function.const _ _) (fun x=>x.1≤2∧x.2 = [2]++J6 c.G7.toNat++S8 a0K ([c.l9,c.Y5].take x.1)) (fun x=>2 - x.1) ((0,[2]++J6 c.G7.toNat)) (.cons a8 (.nil _)) ?_ (.c2 a8 a8 (.c2 a8 a8 (.nil _))) (a8) fun x hF => ?_
   ·exact⟨Nat.zero_le _,by simp [S8]⟩
   obtain⟨k,y⟩:=x
   obtain⟨h1,h2⟩:=hF
   dsimp only at h1 h2 ⊢
   have hy:y.length≤3000:=(by have h5:=a1B g5;have h7:=a1B g7;have h8:k=0∨k=1∨k=2:=(by omega);rw [h2];rcases h8 with rfl|rfl|rfl<;>simp [S8]<;>omega)
   have hxk:∀ (h:k < [c.l9,c.Y5].length),([c.l9,c.Y5][k]).length≤1024:=(by intro h;have h8:k=0∨k=1:=(by simp at h;omega);rcases h8 with rfl|rfl;exact g5;exact g7)
   refine .q 6 hG ⟨fun hc39 => ?_,fun hc39 => ?_⟩
   ·refine .q 5 hG ?_
    refine .p (.ix c1d a8 (.t a8) (.t a8) (by omega) (by omega) ?_)
    refine .q 7 hG ?_
    refine .K8 (.t a8) (fun hc42 => ?_) (fun hc42=>(by exfalso;exact hc42 rfl))
    refine .q 3 hG ?_
    refine .p (.o8 hG (b0G _ _ (by omega) (hxk (by simp;omega))) (.cons (.t a8) (.cons (.t a8) .nil)) ?_)
    refine .q 7 hG ?_
    refine .ad (by omega) (by omega) ?_
    refine .q 2 hG ?_
    refine⟨(k+1,_),.c2 rfl rfl (.c2 rfl rfl (.nil _)),rfl,?_,by dsimp only;omega⟩
    refine⟨by omega,?_⟩;rw [a1A a0K _ k (by simp;omega),←List.append_assoc,←h2];simp [a0K]
   ·refine .q 2 hG ?_
    skip
    refine .q 7 hG ?_
    refine .e2 a8 a8 a8 ?_
    obtain rfl:k=2:=(by omega)
    rw [a1E hco]
    unfold E8
    rw [if_pos (by simpa using hc15),h2]
    simp [S8,a0K]
theorem a9H (c:Cav):p4 gl prog 167 [.v c] (fun r=>r = .t2 (.v (W4 c).1) (.v (W4 c).2)):=by
 refine p4.jn func167 (by kernel_rfl) 34 rfl fun C hC hG => ?_
 refine .q 3 hG fun b1 => ?_
 refine .q 5 hG ?_
 refine .y6 hC .z (.L6 1 a8 .z ?_)
 refine .q 2 hG ?_
 refine .k hG (a4L _) ?_
 refine .q 2 hG ?_
 refine .cond (.t a8) (fun hc8 => ?_) (fun hc8 => ?_)
 ·refine .q 6 hG ?_
  refine .e2 a8 a8 a8 ?_
  rw [a45 (by simpa using hc8)]
 ·refine .q 3 hG ?_
  have hco:I5 c=true:=by simpa using hc8
  refine .q 5 hG ?_
  refine .cond (.t a8) (fun hc11 => ?_) (fun hc11 => ?_)
  ·refine .q 4 hG ?_
   refine .k hG (a5L _) ?_
   refine .q 7 hG ?_
   have h11:c.Q9=false:=by simpa using hc11
   obtain⟨hpo,-⟩:=a2W hco h11
   have hpl:=H5 (O1 hpo)
   rw [y0 hpo]
   refine .q 1 hG ?_
   refine .bs a8 (by decide) fun b18 => ?_
   refine .q 1 hG ?_
   refine .ap (by simp<;>omega) (by simp<;>omega) fun w20 => ?_
   refine .q 3 hG ?_
   refine .u0 hC .z (.as 2 a8 .z ?_)
   refine .q 1 hG ?_
   refine .e2 a8 a8 a8 ?_
   rw [a1E hco]
   unfold E8
   rw [h11]
   rfl
  ·refine .q 2 hG ?_
   obtain⟨g1,g2,g3,g4,g5,g6,g7⟩:=a2V hco (by simpa using hc11)
   have hn:=B1 (n:=c.G7.toNat) (by omega)
   have hn2:=B1 (n:=c.l9.length) (by omega)
   have hn3:=B1 (n:=c.Y5.length) (by omega)
   refine .a7h (by kernel_rfl) 15 [[],[],[(22,1)],[(23,2)],[(21,0),(24,3)],[],[(26,5)],[(27,6)],[(25,4),(28,7)],[],[(30,9)],[(31,10)],[(29,8),(32,11)],[(33,12)],[]] [0,4,8,12,13] a8 (by kernel_rfl) a8 (by kernel_rfl) (by decide) (.inl ?_)
   refine⟨_,fun H=>j6.A7 o5.l2 (fun x=>x.G7) b7y a8 (fun _=>a8) (.t a8) a8,?_⟩
   refine⟨_,fun H=>j6.G6 P5 (.t a8) a8,?_⟩
   refine⟨_,fun H=>j6.o8 hG (F3 _ (by omega) (by omega)) (.cons (.t a8) .nil) a8,?_⟩
   refine .inl ?_
   refine⟨_,fun H=>j6.A7 o5.l3 (fun x=>x.l9) b3j a8 (fun _=>a8) (.t a8) a8,?_⟩
   refine⟨_,fun H=>j6.G6 a3y (.t a8) a8,?_⟩
   refine⟨_,fun H=>j6.o8 hG (a08 _ (by omega)) (.cons (.t a8) .nil) a8,?_⟩
   refine .inl ?_
   refine⟨_,fun H=>j6.A7 o5.l4 (fun x=>x.Y5) b7z a8 (fun _=>a8) (.t a8) a8,?_⟩
   refine⟨_,fun H=>j6.G6 a3y (.t a8) a8,?_⟩
   refine⟨_,fun H=>j6.o8 hG (a08 _ (by omega)) (.cons (.t a8) .nil) a8,?_⟩
   refine .inl (.inl ?_)
   refine⟨_,fun H=>j6.assign (.i a8) a8,?_⟩
   refine A0.buildSlice (α:=UInt8) ty5 underlying86 (.cons (.u8 2 rfl) .nil) rfl (by decide) fun b21 => ?_
   refine A0.append P3 (.inl ⟨_,underlying86⟩) rfl .z (.v (.t rfl)) (by simp<;>omega) (by simp<;>omega) (fun w25 => ?_) rfl
   refine A0.append P3 (.inl ⟨_,underlying86⟩) rfl .z (.v (.t rfl)) (by simp<;>omega) (by simp<;>omega) (fun w29 => ?_) rfl
   refine A0.append P3 (.inl ⟨_,underlying86⟩) rfl .z (.v (.t rfl)) (by simp<;>omega) (by simp<;>omega) (fun w33 => ?_) rfl
   refine A0.ofP (j6.assign (.t rfl) ?_)
   show D0 _ _ _ _ _ [] ((3,_)::(2,_)::(33,_)::(32,_)::(31,_)::(30,_)::(29,_)::(28,_)::(27,_)::(26,_)::(25,_)::(24,_)::(23,_)::(22,_)::(21,_)::_) _
   refine .q 1 hG ?_
   refine .u0 hC .z (.as 2 a8 .z ?_)
   refine .q 1 hG ?_
   refine .e2 a8 a8 a8 ?_
   rw [a1E hco]
   unfold E8
   rw [if_pos (by simpa using hc11)]
   simp [a0K]
end Go.Proofs.YtmmclghiidoldaaGreatDoor
