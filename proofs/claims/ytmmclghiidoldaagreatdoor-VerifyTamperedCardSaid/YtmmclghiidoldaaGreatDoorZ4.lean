/- Plain Lean over any program, and walks of this seat's functions: contracts, each proved once (part 4). -/
import Derived.Test.YtmmclghiidoldaaGreatDoorZ3
set_option maxRecDepth 1000000
set_option synthInstance.maxSize 1000000
set_option synthInstance.maxHeartbeats 10000000
set_option linter.unusedVariables false
set_option linter.unusedSimpArgs false
namespace Go.Proofs.YtmmclghiidoldaaGreatDoor
open Go.Proofs.Tryz
open Go.Fl Go.Ab Go.Mac Go.Sha
abbrev Pred:=j4
def a1e (m:UInt64) (n:Int):Bool:=decide (m≠0)&&(decide (n=64)||decide (m >>> UInt64.ofNat n.toNat=0))
theorem b4b (m:UInt64) (n:Int) (h0:0≤n) (h1:n≤64):u1 gl prog 121 [.v m,.v n] (fun r=>r = .v (a1e m n)):=by
 refine u1.jn func121 (by kernel_rfl) 17 rfl fun C hC hG => ?_
 refine .q 11 hG ?_
 refine .goU 7 a8 (.t a8) (fun hg10 => .move (.q a8 hg10) a8) (.gn 10 a8 a8 (fun hc11 hg11 => .move (.t a8) a8) (.gn 10 a8 a8 (fun hc12 hg12 => .move (.t a8) a8) (.gn 10 a8 a8 (fun hc13 hg13 => .b3U (.ou a8 (Bool.and_eq_true_iff.2 ⟨hc13,beq_iff_eq.2 hg13⟩)) (.ou a8 (Bool.and_eq_true_iff.2 ⟨hc13,beq_iff_eq.2 hg13⟩)) (by first|omega|(simp;omega)|(have:=hg13;simp at this;omega)) (by first|omega|(simp;omega)|(have:=hg13;simp at this;omega)) a8) (.gn 10 a8 a8 (fun hc14 hg14 => .c03 (.ou a8 (Bool.and_eq_true_iff.2 ⟨hc14,beq_iff_eq.2 hg14⟩)) (.u64 0 a8) a8) (.go 7 a8 (.t a8) (fun hg15 => .a4x (.ou a8 (beq_iff_eq.2 hg15)) (fun hp=>(.ou a8 (Bool.and_eq_true_iff.2 ⟨(beq_iff_eq.2 hg15),beq_iff_eq.2 hp⟩))) a8) ?_)))))
 refine .q 4 hG ?_
 refine .e1 a8 a8 ?_
 rfl
theorem a50 (s:Str):u1 gl prog 122 [.v s] (fun r=>r = .v (T9 s)):=by
 refine u1.jn func122 (by kernel_rfl) 28 rfl fun C hC hG => ?_
 refine .q 6 hG ?_
 refine .a9F 0 a8 fun hs => ?_
 refine .q 10 hG ?_
 refine .cond (.t a8) (fun hc11 => ?_) (fun hc11 => ?_)
 ·refine .q 5 hG ?_
  refine .e1 a8 a8 ?_
  refine congrArg AV.v ?_;simp only [Bool.or_eq_true,decide_eq_true_eq] at hc11;unfold T9;rcases hc11 with h|h
  ·rw [decide_eq_false (show ¬1≤s.l.length by omega)];rfl
  ·rw [decide_eq_false (show ¬s.l.length≤16 by omega)];simp
 ·refine .q 9 hG ?_
  refine .E3 (α:=Nat) [(0,_),(13,_)] (fun k R=>(14,.v (k:Int))::R) (fun k => []) (fun k=>k≤s.l.length∧(s.l.take k).all a30=true) (fun k=>s.l.length - k) (0) (.c2 a8 a8 (.nil _)) ?_ (.c2 a8 a8 (.cons a8 (.nil _))) (a8) fun k hF => ?_
  ·simp
  obtain⟨h1,h2⟩:=hF
  refine .q 6 hG ⟨fun hc15 => ?_,fun hc15 => ?_⟩
  ·refine .q 12 hG ?_
   refine .p (.b5i underlying9 (.t a8) (.t a8) (by omega) (by omega) ?_)
   refine .q 4 hG ?_
   refine .go 21 a8 (.t a8) (fun hg24 => .b5i underlying9 (.q a8 hg24) (.q a8 hg24) (by first|omega|(simp;omega)|(have:=hg24;simp at this;omega)) (by first|omega|(simp;omega)|(have:=hg24;simp at this;omega)) a8) ?_
   refine .q 3 hG ?_
   refine .cond (.t a8) (fun hc26 => ?_) (fun hc26 => ?_)
   ·refine .q 5 hG ?_
    refine .e1 a8 a8 ?_
    refine congrArg AV.v (Eq.symm ?_);unfold T9;rw [b0G a30 s.l k (by omega),Bool.and_false];unfold a30;simp only [Bool.or_eq_true,decide_eq_true_eq,Int.toNat_natCast] at hc26;rcases hc26 with h|h
    ·rw [decide_eq_false (UInt8.not_le.2 h)];rfl
    ·rw [decide_eq_false (UInt8.not_le.2 h),Bool.and_false]
   ·refine .q 2 hG ?_
    refine .ad (by omega) (by omega) ?_
    refine .q 2 hG ?_
    refine⟨k+1,.c2 rfl rfl (.cons rfl (.nil _)),rfl,?_,by omega⟩
    refine⟨by omega,?_⟩;rw [all_succ _ _ _ (by omega),h2];simp only [Bool.or_eq_false_iff,decide_eq_false_iff_not,Int.toNat_natCast] at hc26;unfold a30;simp only [Bool.true_and,Bool.and_eq_true,decide_eq_true_eq];exact⟨UInt8.not_lt.1 hc26.1,UInt8.not_lt.1 hc26.2⟩
  ·refine .q 6 hG ?_
   refine .e1 a8 a8 ?_
   refine congrArg AV.v (Eq.symm ?_);simp only [Bool.or_eq_false_iff,decide_eq_false_iff_not] at hc11;unfold T9;rw [List.take_of_length_le (by omega)] at h2;rw [h2];simp;omega
def G6 (k:Int):Int:=if k=1 then 64 else if k=2 then 32 else 7
def A7 (p:Pred):Bool :=
 if p.Kind=1∨p.Kind=2∨p.Kind=3 then a1e p.Mask (G6 p.Kind)&&decide (p=⟨p.Kind,p.Mask,0,0,⟨[]⟩,0⟩)
 else if p.Kind=4 then decide (0≤p.M7)&&decide (p.M7≤p.To)&&decide (p.To≤67108864)&&decide (p=⟨p.Kind,0,p.M7,p.To,⟨[]⟩,0⟩)
 else if p.Kind=5 then decide (0≤p.M7)&&decide (p.M7 < 1440)&&decide (0≤p.To)&&decide (p.To < 1440)&&decide (p=⟨p.Kind,0,p.M7,p.To,⟨[]⟩,0⟩)
 else if p.Kind=6 then T9 p.Name&&decide (p=⟨p.Kind,0,0,0,p.Name,0⟩)
 else if p.Kind=7 then decide (0≤p.Number)&&decide (p.Number≤1000000)&&decide (p=⟨p.Kind,0,0,0,⟨[]⟩,p.Number⟩)
 else false
theorem a1C:∀ (i:Nat) (h:i < a6r.l.length),0≤a6r.l[i]∧a6r.l[i]≤64:=by decide
theorem S5 (k:Int) (h:k=1∨k=2∨k=3) (h2:k.toNat < a6r.l.length):a6r.l[k.toNat]=G6 k:=by
 rcases h with rfl|rfl|rfl<;>rfl
theorem a4L (p:Pred):u1 gl prog 63 [.v p] (fun r=>r = .v (A7 p)):=by
 refine u1.jn func63 (by kernel_rfl) 118 rfl fun C hC hG => ?_
 refine .q 3 hG fun b1 => ?_
 refine .q 3 hG ?_
 refine .A8 hC .z (.O5 1 a8 .z ?_)
 refine .q 3 hG ?_
 refine .p (.bS1 j4.l0 a8 Q5 a7Z (fun c0=>(⟨c0,0,0,0,⟨[]⟩,0⟩:j4)) (fun _=>a8) a8 a8 (.t a8) ?_)
 refine .q 1 hG fun b3 => ?_
 refine .q 16 hG ⟨fun hc9 => ?_,fun hc9 => ?_⟩
 ·refine .q 2 hG ⟨fun hc9 => ?_,fun hc9 => ?_⟩
  ·refine .q 8 hG ?_
   refine .draw (by kernel_rfl) 13 [[],[(16,0)],[],[(18,2)],[(19,3)],[(20,4)],[(17,1),(21,5)],[(22,6)],[],[],[(24,8),(25,9)],[(23,7),(26,10)],[(27,11)]] a8 (by kernel_rfl) a8 ?_
   refine⟨_,j6.A9 j4.l1 (fun x=>x.Mask) a0O a8 (fun _=>a8) (.t a8) a8,?_⟩
   refine⟨_,j6.G9 a5U (.t a8) a8,?_⟩
   refine⟨_,j6.A9 j4.l0 (fun x=>x.Kind) b0g a8 (fun _=>a8) (.t a8) a8,?_⟩
   refine⟨_,j6.G9 R3 (.t a8) a8,?_⟩
   refine⟨_,j6.c1J b7C (.c1H hG a1b) (.t a8) (by omega) (by omega) a8,?_⟩
   refine⟨_,j6.G9 R3 (.t a8) a8,?_⟩
   refine⟨_,j6.o9 hG (b4b _ _ (a1C _ _).1 (a1C _ _).2) (.cons (.t a8) (.cons (.t a8) .nil)) a8,?_⟩
   refine⟨_,j6.move (.t a8) a8,?_⟩
   refine⟨_,⟨_,_,a8,a8,fun hg24=>j6.G9 Q5 (.t a8) a8⟩,?_⟩
   refine⟨_,⟨_,_,a8,a8,fun hg25=>j6.T1 Q5 (.t a8) .z a8⟩,?_⟩
   refine⟨_,⟨_,_,a8,a8,fun hg26=>j6.a2b V9 (by decide) a8 (by kernel_rfl) (.q a8 hg26) (.q a8 hg26) a8⟩,?_⟩
   refine⟨_,j6.T8 (.t a8) (fun hp=>(.q a8 hp)) a8,?_⟩
   refine⟨_,j6.assign (.t a8) a8,?_⟩
   show D6 _ _ _ _ _ [] ((2,_)::(27,_)::(26,_)::(25,_)::(24,_)::(23,_)::(22,_)::(21,_)::(20,_)::(19,_)::(18,_)::(17,_)::(16,_)::_) _
   refine .q 2 hG ?_
   refine .e1 a8 a8 ?_
   first|(exfalso;omega)|(refine congrArg AV.v ?_;(try rw [S5 p.Kind (by omega)]);unfold A7;(repeat (first|rw [if_pos (by omega)]|rw [if_neg (by omega)]));(try rfl))
  ·refine .q 6 hG ⟨fun hc28 => ?_,fun hc28 => ?_⟩
   ·refine .q 1 hG ?_
    refine .E0 [j0,j1] (by kernel_rfl) 8 [[],[(30,0)],[],[(32,2)],[],[(34,4),(31,1)],[],[(35,6),(33,3)]] [5,7] a8 (by kernel_rfl) a8 (by kernel_rfl) (by decide) ?_
    refine⟨_,fun H=>j6.A9 j4.l2 (fun x=>x.M7) M4 a8 (fun _=>a8) (.t a8) a8,?_⟩
    refine⟨_,fun H=>j6.G9 R3 (.t a8) a8,?_⟩
    refine⟨_,fun H=>j6.A9 j4.l3 (fun x=>x.To) M5 a8 (fun _=>a8) (.t a8) a8,?_⟩
    refine⟨_,fun H=>j6.G9 R3 (.t a8) a8,?_⟩
    refine⟨_,fun H=>j6.B0 j4.l2 M4 a8 (.t a8) a8,?_⟩
    refine .inl ?_
    refine⟨_,fun H=>j6.B0 j4.l3 M5 a8 (.t a8) a8,?_⟩
    refine .inl ?_
    refine⟨⟨([],j2 [_,c8]),a8⟩,?_⟩
    refine A6.stF (fun y x => { x with M7:=y }) R3 (.t rfl) (.t rfl) .z (fun _ _=>rfl) ?_
    refine⟨⟨([],j2 [_,c8]),a8⟩,?_⟩
    refine A6.stF (fun y x => { x with To:=y }) R3 (.t rfl) (.t rfl) .z (fun _ _=>rfl) ?_
    refine⟨⟨([],j2 [_,c8]),a8⟩,?_⟩
    show D6 _ _ _ _ _ [] ((35,_)::(34,_)::(33,_)::(32,_)::(31,_)::(30,_)::_) _
    refine .q 21 hG ?_
    refine .go 51 a8 (.t a8) (fun hg54 => .a2b V9 (by decide) a8 (by kernel_rfl) (.q a8 hg54) (.q a8 hg54) a8) ?_
    refine .q 4 hG ?_
    refine .e1 a8 a8 ?_
    first|(exfalso;omega)|(refine congrArg AV.v ?_;(try rw [S5 p.Kind (by omega)]);unfold A7;(repeat (first|rw [if_pos (by omega)]|rw [if_neg (by omega)]));(try rfl))
   ·refine .q 6 hG ⟨fun hc56 => ?_,fun hc56 => ?_⟩
    ·refine .q 1 hG ?_
     refine .E0 [j0,j1] (by kernel_rfl) 8 [[],[(58,0)],[],[(60,2)],[],[(62,4),(59,1)],[],[(63,6),(61,3)]] [5,7] a8 (by kernel_rfl) a8 (by kernel_rfl) (by decide) ?_
     refine⟨_,fun H=>j6.A9 j4.l2 (fun x=>x.M7) M4 a8 (fun _=>a8) (.t a8) a8,?_⟩
     refine⟨_,fun H=>j6.G9 R3 (.t a8) a8,?_⟩
     refine⟨_,fun H=>j6.A9 j4.l3 (fun x=>x.To) M5 a8 (fun _=>a8) (.t a8) a8,?_⟩
     refine⟨_,fun H=>j6.G9 R3 (.t a8) a8,?_⟩
     refine⟨_,fun H=>j6.B0 j4.l2 M4 a8 (.t a8) a8,?_⟩
     refine .inl ?_
     refine⟨_,fun H=>j6.B0 j4.l3 M5 a8 (.t a8) a8,?_⟩
     refine .inl ?_
     refine⟨⟨([],j2 [_,c8]),a8⟩,?_⟩
     refine A6.stF (fun y x => { x with M7:=y }) R3 (.t rfl) (.t rfl) .z (fun _ _=>rfl) ?_
     refine⟨⟨([],j2 [_,c8]),a8⟩,?_⟩
     refine A6.stF (fun y x => { x with To:=y }) R3 (.t rfl) (.t rfl) .z (fun _ _=>rfl) ?_
     refine⟨⟨([],j2 [_,c8]),a8⟩,?_⟩
     show D6 _ _ _ _ _ [] ((63,_)::(62,_)::(61,_)::(60,_)::(59,_)::(58,_)::_) _
     refine .q 24 hG ?_
     refine .go 82 a8 (.t a8) (fun hg85 => .a2b V9 (by decide) a8 (by kernel_rfl) (.q a8 hg85) (.q a8 hg85) a8) ?_
     refine .q 4 hG ?_
     refine .e1 a8 a8 ?_
     first|(exfalso;omega)|(refine congrArg AV.v ?_;(try rw [S5 p.Kind (by omega)]);unfold A7;(repeat (first|rw [if_pos (by omega)]|rw [if_neg (by omega)]));(try rfl))
    ·refine .q 6 hG ⟨fun hc87 => ?_,fun hc87 => ?_⟩
     ·refine .q 11 hG ?_
      refine .k hG (a50 _) ?_
      refine .q 3 hG ?_
      refine .go 95 a8 (.t a8) (fun hg98 => .a2b V9 (by decide) a8 (by kernel_rfl) (.q a8 hg98) (.q a8 hg98) a8) ?_
      refine .q 4 hG ?_
      refine .e1 a8 a8 ?_
      first|(exfalso;omega)|(refine congrArg AV.v ?_;(try rw [S5 p.Kind (by omega)]);unfold A7;(repeat (first|rw [if_pos (by omega)]|rw [if_neg (by omega)]));(try rfl))
     ·refine .q 6 hG ⟨fun hc100 => ?_,fun hc100 => ?_⟩
      ·refine .q 20 hG ?_
       refine .go 113 a8 (.t a8) (fun hg116 => .a2b V9 (by decide) a8 (by kernel_rfl) (.q a8 hg116) (.q a8 hg116) a8) ?_
       refine .q 4 hG ?_
       refine .e1 a8 a8 ?_
       first|(exfalso;omega)|(refine congrArg AV.v ?_;(try rw [S5 p.Kind (by omega)]);unfold A7;(repeat (first|rw [if_pos (by omega)]|rw [if_neg (by omega)]));(try rfl))
      ·refine .q 6 hG ?_
       refine .e1 a8 a8 ?_
       first|(exfalso;omega)|(refine congrArg AV.v ?_;(try rw [S5 p.Kind (by omega)]);unfold A7;(repeat (first|rw [if_pos (by omega)]|rw [if_neg (by omega)]));(try rfl))
 ·refine .q 6 hG ⟨fun hc9 => ?_,fun hc9 => ?_⟩
  ·refine .q 2 hG ⟨fun hc9 => ?_,fun hc9 => ?_⟩
   ·refine .q 8 hG ?_
    refine .draw (by kernel_rfl) 13 [[],[(16,0)],[],[(18,2)],[(19,3)],[(20,4)],[(17,1),(21,5)],[(22,6)],[],[],[(24,8),(25,9)],[(23,7),(26,10)],[(27,11)]] a8 (by kernel_rfl) a8 ?_
    refine⟨_,j6.A9 j4.l1 (fun x=>x.Mask) a0O a8 (fun _=>a8) (.t a8) a8,?_⟩
    refine⟨_,j6.G9 a5U (.t a8) a8,?_⟩
    refine⟨_,j6.A9 j4.l0 (fun x=>x.Kind) b0g a8 (fun _=>a8) (.t a8) a8,?_⟩
    refine⟨_,j6.G9 R3 (.t a8) a8,?_⟩
    refine⟨_,j6.c1J b7C (.c1H hG a1b) (.t a8) (by omega) (by omega) a8,?_⟩
    refine⟨_,j6.G9 R3 (.t a8) a8,?_⟩
    refine⟨_,j6.o9 hG (b4b _ _ (a1C _ _).1 (a1C _ _).2) (.cons (.t a8) (.cons (.t a8) .nil)) a8,?_⟩
    refine⟨_,j6.move (.t a8) a8,?_⟩
    refine⟨_,⟨_,_,a8,a8,fun hg24=>j6.G9 Q5 (.t a8) a8⟩,?_⟩
    refine⟨_,⟨_,_,a8,a8,fun hg25=>j6.T1 Q5 (.t a8) .z a8⟩,?_⟩
    refine⟨_,⟨_,_,a8,a8,fun hg26=>j6.a2b V9 (by decide) a8 (by kernel_rfl) (.q a8 hg26) (.q a8 hg26) a8⟩,?_⟩
    refine⟨_,j6.T8 (.t a8) (fun hp=>(.q a8 hp)) a8,?_⟩
    refine⟨_,j6.assign (.t a8) a8,?_⟩
    show D6 _ _ _ _ _ [] ((2,_)::(27,_)::(26,_)::(25,_)::(24,_)::(23,_)::(22,_)::(21,_)::(20,_)::(19,_)::(18,_)::(17,_)::(16,_)::_) _
    refine .q 2 hG ?_
    refine .e1 a8 a8 ?_
    first|(exfalso;omega)|(refine congrArg AV.v ?_;(try rw [S5 p.Kind (by omega)]);unfold A7;(repeat (first|rw [if_pos (by omega)]|rw [if_neg (by omega)]));(try rfl))
   ·refine .q 6 hG ⟨fun hc28 => ?_,fun hc28 => ?_⟩
    ·refine .q 1 hG ?_
     refine .E0 [j0,j1] (by kernel_rfl) 8 [[],[(30,0)],[],[(32,2)],[],[(34,4),(31,1)],[],[(35,6),(33,3)]] [5,7] a8 (by kernel_rfl) a8 (by kernel_rfl) (by decide) ?_
     refine⟨_,fun H=>j6.A9 j4.l2 (fun x=>x.M7) M4 a8 (fun _=>a8) (.t a8) a8,?_⟩
     refine⟨_,fun H=>j6.G9 R3 (.t a8) a8,?_⟩
     refine⟨_,fun H=>j6.A9 j4.l3 (fun x=>x.To) M5 a8 (fun _=>a8) (.t a8) a8,?_⟩
     refine⟨_,fun H=>j6.G9 R3 (.t a8) a8,?_⟩
     refine⟨_,fun H=>j6.B0 j4.l2 M4 a8 (.t a8) a8,?_⟩
     refine .inl ?_
     refine⟨_,fun H=>j6.B0 j4.l3 M5 a8 (.t a8) a8,?_⟩
     refine .inl ?_
     refine⟨⟨([],j2 [_,c8]),a8⟩,?_⟩
     refine A6.stF (fun y x => { x with M7:=y }) R3 (.t rfl) (.t rfl) .z (fun _ _=>rfl) ?_
     refine⟨⟨([],j2 [_,c8]),a8⟩,?_⟩
     refine A6.stF (fun y x => { x with To:=y }) R3 (.t rfl) (.t rfl) .z (fun _ _=>rfl) ?_
     refine⟨⟨([],j2 [_,c8]),a8⟩,?_⟩
     show D6 _ _ _ _ _ [] ((35,_)::(34,_)::(33,_)::(32,_)::(31,_)::(30,_)::_) _
     refine .q 21 hG ?_
     refine .go 51 a8 (.t a8) (fun hg54 => .a2b V9 (by decide) a8 (by kernel_rfl) (.q a8 hg54) (.q a8 hg54) a8) ?_
     refine .q 4 hG ?_
     refine .e1 a8 a8 ?_
     first|(exfalso;omega)|(refine congrArg AV.v ?_;(try rw [S5 p.Kind (by omega)]);unfold A7;(repeat (first|rw [if_pos (by omega)]|rw [if_neg (by omega)]));(try rfl))
    ·refine .q 6 hG ⟨fun hc56 => ?_,fun hc56 => ?_⟩
     ·refine .q 1 hG ?_
      refine .E0 [j0,j1] (by kernel_rfl) 8 [[],[(58,0)],[],[(60,2)],[],[(62,4),(59,1)],[],[(63,6),(61,3)]] [5,7] a8 (by kernel_rfl) a8 (by kernel_rfl) (by decide) ?_
      refine⟨_,fun H=>j6.A9 j4.l2 (fun x=>x.M7) M4 a8 (fun _=>a8) (.t a8) a8,?_⟩
      refine⟨_,fun H=>j6.G9 R3 (.t a8) a8,?_⟩
      refine⟨_,fun H=>j6.A9 j4.l3 (fun x=>x.To) M5 a8 (fun _=>a8) (.t a8) a8,?_⟩
      refine⟨_,fun H=>j6.G9 R3 (.t a8) a8,?_⟩
      refine⟨_,fun H=>j6.B0 j4.l2 M4 a8 (.t a8) a8,?_⟩
      refine .inl ?_
      refine⟨_,fun H=>j6.B0 j4.l3 M5 a8 (.t a8) a8,?_⟩
      refine .inl ?_
      refine⟨⟨([],j2 [_,c8]),a8⟩,?_⟩
      refine A6.stF (fun y x => { x with M7:=y }) R3 (.t rfl) (.t rfl) .z (fun _ _=>rfl) ?_
      refine⟨⟨([],j2 [_,c8]),a8⟩,?_⟩
      refine A6.stF (fun y x => { x with To:=y }) R3 (.t rfl) (.t rfl) .z (fun _ _=>rfl) ?_
      refine⟨⟨([],j2 [_,c8]),a8⟩,?_⟩
      show D6 _ _ _ _ _ [] ((63,_)::(62,_)::(61,_)::(60,_)::(59,_)::(58,_)::_) _
      refine .q 24 hG ?_
      refine .go 82 a8 (.t a8) (fun hg85 => .a2b V9 (by decide) a8 (by kernel_rfl) (.q a8 hg85) (.q a8 hg85) a8) ?_
      refine .q 4 hG ?_
      refine .e1 a8 a8 ?_
      first|(exfalso;omega)|(refine congrArg AV.v ?_;(try rw [S5 p.Kind (by omega)]);unfold A7;(repeat (first|rw [if_pos (by omega)]|rw [if_neg (by omega)]));(try rfl))
     ·refine .q 6 hG ⟨fun hc87 => ?_,fun hc87 => ?_⟩
      ·refine .q 11 hG ?_
       refine .k hG (a50 _) ?_
       refine .q 3 hG ?_
       refine .go 95 a8 (.t a8) (fun hg98 => .a2b V9 (by decide) a8 (by kernel_rfl) (.q a8 hg98) (.q a8 hg98) a8) ?_
       refine .q 4 hG ?_
       refine .e1 a8 a8 ?_
       first|(exfalso;omega)|(refine congrArg AV.v ?_;(try rw [S5 p.Kind (by omega)]);unfold A7;(repeat (first|rw [if_pos (by omega)]|rw [if_neg (by omega)]));(try rfl))
      ·refine .q 6 hG ⟨fun hc100 => ?_,fun hc100 => ?_⟩
       ·refine .q 20 hG ?_
        refine .go 113 a8 (.t a8) (fun hg116 => .a2b V9 (by decide) a8 (by kernel_rfl) (.q a8 hg116) (.q a8 hg116) a8) ?_
        refine .q 4 hG ?_
        refine .e1 a8 a8 ?_
        first|(exfalso;omega)|(refine congrArg AV.v ?_;(try rw [S5 p.Kind (by omega)]);unfold A7;(repeat (first|rw [if_pos (by omega)]|rw [if_neg (by omega)]));(try rfl))
       ·refine .q 6 hG ?_
        refine .e1 a8 a8 ?_
        first|(exfalso;omega)|(refine congrArg AV.v ?_;(try rw [S5 p.Kind (by omega)]);unfold A7;(repeat (first|rw [if_pos (by omega)]|rw [if_neg (by omega)]));(try rfl))
  ·refine .q 5 hG ⟨fun hc9 => ?_,fun hc9 => ?_⟩
   ·refine .q 8 hG ?_
    refine .draw (by kernel_rfl) 13 [[],[(16,0)],[],[(18,2)],[(19,3)],[(20,4)],[(17,1),(21,5)],[(22,6)],[],[],[(24,8),(25,9)],[(23,7),(26,10)],[(27,11)]] a8 (by kernel_rfl) a8 ?_
    refine⟨_,j6.A9 j4.l1 (fun x=>x.Mask) a0O a8 (fun _=>a8) (.t a8) a8,?_⟩
    refine⟨_,j6.G9 a5U (.t a8) a8,?_⟩
    refine⟨_,j6.A9 j4.l0 (fun x=>x.Kind) b0g a8 (fun _=>a8) (.t a8) a8,?_⟩
    refine⟨_,j6.G9 R3 (.t a8) a8,?_⟩
    refine⟨_,j6.c1J b7C (.c1H hG a1b) (.t a8) (by omega) (by omega) a8,?_⟩
    refine⟨_,j6.G9 R3 (.t a8) a8,?_⟩
    refine⟨_,j6.o9 hG (b4b _ _ (a1C _ _).1 (a1C _ _).2) (.cons (.t a8) (.cons (.t a8) .nil)) a8,?_⟩
    refine⟨_,j6.move (.t a8) a8,?_⟩
    refine⟨_,⟨_,_,a8,a8,fun hg24=>j6.G9 Q5 (.t a8) a8⟩,?_⟩
    refine⟨_,⟨_,_,a8,a8,fun hg25=>j6.T1 Q5 (.t a8) .z a8⟩,?_⟩
    refine⟨_,⟨_,_,a8,a8,fun hg26=>j6.a2b V9 (by decide) a8 (by kernel_rfl) (.q a8 hg26) (.q a8 hg26) a8⟩,?_⟩
    refine⟨_,j6.T8 (.t a8) (fun hp=>(.q a8 hp)) a8,?_⟩
    refine⟨_,j6.assign (.t a8) a8,?_⟩
    show D6 _ _ _ _ _ [] ((2,_)::(27,_)::(26,_)::(25,_)::(24,_)::(23,_)::(22,_)::(21,_)::(20,_)::(19,_)::(18,_)::(17,_)::(16,_)::_) _
    refine .q 2 hG ?_
    refine .e1 a8 a8 ?_
    first|(exfalso;omega)|(refine congrArg AV.v ?_;(try rw [S5 p.Kind (by omega)]);unfold A7;(repeat (first|rw [if_pos (by omega)]|rw [if_neg (by omega)]));(try rfl))
   ·refine .q 6 hG ⟨fun hc28 => ?_,fun hc28 => ?_⟩
    ·refine .q 1 hG ?_
     refine .E0 [j0,j1] (by kernel_rfl) 8 [[],[(30,0)],[],[(32,2)],[],[(34,4),(31,1)],[],[(35,6),(33,3)]] [5,7] a8 (by kernel_rfl) a8 (by kernel_rfl) (by decide) ?_
     refine⟨_,fun H=>j6.A9 j4.l2 (fun x=>x.M7) M4 a8 (fun _=>a8) (.t a8) a8,?_⟩
     refine⟨_,fun H=>j6.G9 R3 (.t a8) a8,?_⟩
     refine⟨_,fun H=>j6.A9 j4.l3 (fun x=>x.To) M5 a8 (fun _=>a8) (.t a8) a8,?_⟩
     refine⟨_,fun H=>j6.G9 R3 (.t a8) a8,?_⟩
     refine⟨_,fun H=>j6.B0 j4.l2 M4 a8 (.t a8) a8,?_⟩
     refine .inl ?_
     refine⟨_,fun H=>j6.B0 j4.l3 M5 a8 (.t a8) a8,?_⟩
     refine .inl ?_
     refine⟨⟨([],j2 [_,c8]),a8⟩,?_⟩
     refine A6.stF (fun y x => { x with M7:=y }) R3 (.t rfl) (.t rfl) .z (fun _ _=>rfl) ?_
     refine⟨⟨([],j2 [_,c8]),a8⟩,?_⟩
     refine A6.stF (fun y x => { x with To:=y }) R3 (.t rfl) (.t rfl) .z (fun _ _=>rfl) ?_
     refine⟨⟨([],j2 [_,c8]),a8⟩,?_⟩
     show D6 _ _ _ _ _ [] ((35,_)::(34,_)::(33,_)::(32,_)::(31,_)::(30,_)::_) _
     refine .q 21 hG ?_
     refine .go 51 a8 (.t a8) (fun hg54 => .a2b V9 (by decide) a8 (by kernel_rfl) (.q a8 hg54) (.q a8 hg54) a8) ?_
     refine .q 4 hG ?_
     refine .e1 a8 a8 ?_
     first|(exfalso;omega)|(refine congrArg AV.v ?_;(try rw [S5 p.Kind (by omega)]);unfold A7;(repeat (first|rw [if_pos (by omega)]|rw [if_neg (by omega)]));(try rfl))
    ·refine .q 6 hG ⟨fun hc56 => ?_,fun hc56 => ?_⟩
     ·refine .q 1 hG ?_
      refine .E0 [j0,j1] (by kernel_rfl) 8 [[],[(58,0)],[],[(60,2)],[],[(62,4),(59,1)],[],[(63,6),(61,3)]] [5,7] a8 (by kernel_rfl) a8 (by kernel_rfl) (by decide) ?_
      refine⟨_,fun H=>j6.A9 j4.l2 (fun x=>x.M7) M4 a8 (fun _=>a8) (.t a8) a8,?_⟩
      refine⟨_,fun H=>j6.G9 R3 (.t a8) a8,?_⟩
      refine⟨_,fun H=>j6.A9 j4.l3 (fun x=>x.To) M5 a8 (fun _=>a8) (.t a8) a8,?_⟩
      refine⟨_,fun H=>j6.G9 R3 (.t a8) a8,?_⟩
      refine⟨_,fun H=>j6.B0 j4.l2 M4 a8 (.t a8) a8,?_⟩
      refine .inl ?_
      refine⟨_,fun H=>j6.B0 j4.l3 M5 a8 (.t a8) a8,?_⟩
      refine .inl ?_
      refine⟨⟨([],j2 [_,c8]),a8⟩,?_⟩
      refine A6.stF (fun y x => { x with M7:=y }) R3 (.t rfl) (.t rfl) .z (fun _ _=>rfl) ?_
      refine⟨⟨([],j2 [_,c8]),a8⟩,?_⟩
      refine A6.stF (fun y x => { x with To:=y }) R3 (.t rfl) (.t rfl) .z (fun _ _=>rfl) ?_
      refine⟨⟨([],j2 [_,c8]),a8⟩,?_⟩
      show D6 _ _ _ _ _ [] ((63,_)::(62,_)::(61,_)::(60,_)::(59,_)::(58,_)::_) _
      refine .q 24 hG ?_
      refine .go 82 a8 (.t a8) (fun hg85 => .a2b V9 (by decide) a8 (by kernel_rfl) (.q a8 hg85) (.q a8 hg85) a8) ?_
      refine .q 4 hG ?_
      refine .e1 a8 a8 ?_
      first|(exfalso;omega)|(refine congrArg AV.v ?_;(try rw [S5 p.Kind (by omega)]);unfold A7;(repeat (first|rw [if_pos (by omega)]|rw [if_neg (by omega)]));(try rfl))
     ·refine .q 6 hG ⟨fun hc87 => ?_,fun hc87 => ?_⟩
      ·refine .q 11 hG ?_
       refine .k hG (a50 _) ?_
       refine .q 3 hG ?_
       refine .go 95 a8 (.t a8) (fun hg98 => .a2b V9 (by decide) a8 (by kernel_rfl) (.q a8 hg98) (.q a8 hg98) a8) ?_
       refine .q 4 hG ?_
       refine .e1 a8 a8 ?_
       first|(exfalso;omega)|(refine congrArg AV.v ?_;(try rw [S5 p.Kind (by omega)]);unfold A7;(repeat (first|rw [if_pos (by omega)]|rw [if_neg (by omega)]));(try rfl))
      ·refine .q 6 hG ⟨fun hc100 => ?_,fun hc100 => ?_⟩
       ·refine .q 20 hG ?_
        refine .go 113 a8 (.t a8) (fun hg116 => .a2b V9 (by decide) a8 (by kernel_rfl) (.q a8 hg116) (.q a8 hg116) a8) ?_
        refine .q 4 hG ?_
        refine .e1 a8 a8 ?_
        first|(exfalso;omega)|(refine congrArg AV.v ?_;(try rw [S5 p.Kind (by omega)]);unfold A7;(repeat (first|rw [if_pos (by omega)]|rw [if_neg (by omega)]));(try rfl))
       ·refine .q 6 hG ?_
        refine .e1 a8 a8 ?_
        first|(exfalso;omega)|(refine congrArg AV.v ?_;(try rw [S5 p.Kind (by omega)]);unfold A7;(repeat (first|rw [if_pos (by omega)]|rw [if_neg (by omega)]));(try rfl))
theorem c16 (m:UInt64):(m < 4294967296)↔m >>> 32=0:=by
 rw [UInt64.lt_iff_toNat_lt,←UInt64.toNat_inj,UInt64.toNat_shiftRight]
 show m.toNat < 4294967296↔m.toNat >>> 32=0
 rw [Nat.shiftRight_eq_div_pow];constructor<;>(intro h;omega)
theorem c3s (m:UInt64):(m < 128)↔m >>> 7=0:=by
 rw [UInt64.lt_iff_toNat_lt,←UInt64.toNat_inj,UInt64.toNat_shiftRight]
 show m.toNat < 128↔m.toNat >>> 7=0
 rw [Nat.shiftRight_eq_div_pow];constructor<;>(intro h;omega)
theorem a15 (m:UInt64):a1e m (G6 1)=decide (m≠0):=by unfold a1e G6;simp
theorem a16 (m:UInt64):a1e m (G6 2)=(decide (m≠0)&&decide (m < 4294967296)):=by
 have e:decide (m < 4294967296)=decide (m >>> 32=0):=decide_eq_decide.2 (c16 m)
 rw [e];rfl
theorem a17 (m:UInt64):a1e m (G6 3)=(decide (m≠0)&&decide (m < 128)):=by
 have e:decide (m < 128)=decide (m >>> 7=0):=decide_eq_decide.2 (c3s m)
 rw [e];rfl
theorem a1f (p:Pred):u1 gl prog 107 [.v p] (fun r=>r = .v (A7 p)):=by
 refine u1.jn func107 (by kernel_rfl) 120 rfl fun C hC hG => ?_
 refine .q 3 hG fun b1 => ?_
 refine .q 3 hG ?_
 refine .A8 hC .z (.O5 1 a8 .z ?_)
 refine .q 3 hG ?_
 refine .p (.bS1 j4.l0 a8 Q5 a7Z (fun c0=>(⟨c0,0,0,0,⟨[]⟩,0⟩:j4)) (fun _=>a8) a8 a8 (.t a8) ?_)
 refine .q 1 hG fun b3 => ?_
 refine .q 19 hG ⟨fun hc10 => ?_,fun hc10 => ?_⟩
 ·refine .E0 [j0,j1] (by kernel_rfl) 8 [[],[(12,0)],[],[(14,2)],[(15,3)],[],[(17,5),(13,1)],[(16,4)]] [6] a8 (by kernel_rfl) a8 (by kernel_rfl) (by decide) ?_
  refine⟨_,fun H=>j6.A9 j4.l1 (fun x=>x.Mask) a0O a8 (fun _=>a8) (.t a8) a8,?_⟩
  refine⟨_,fun H=>j6.G9 a5U (.t a8) a8,?_⟩
  refine⟨_,fun H=>j6.A9 j4.l1 (fun x=>x.Mask) a0O a8 (fun _=>a8) (.t a8) a8,?_⟩
  refine⟨_,fun H=>j6.G9 a5U (.t a8) a8,?_⟩
  refine⟨_,fun H=>j6.b5h (.t a8) (.u64 0 a8) a8,?_⟩
  refine⟨_,fun H=>j6.B0 j4.l1 a0O a8 (.t a8) a8,?_⟩
  refine .inl ?_
  refine⟨_,fun H=>j6.assign (.t a8) a8,?_⟩
  refine⟨⟨([],j2 [_,c8]),a8⟩,?_⟩
  refine A6.stF (fun y x => { x with Mask:=y }) a5U (.t rfl) (.t rfl) .z (fun _ _=>rfl) ?_
  refine⟨⟨([],j2 [_,c8]),a8⟩,?_⟩
  show D6 _ _ _ _ _ [] ((4,_)::(17,_)::(16,_)::(15,_)::(14,_)::(13,_)::(12,_)::_) _
  refine .q 7 hG ?_
  refine .go 115 a8 (.t a8) (fun hg118 => .a2b V9 (by decide) a8 (by kernel_rfl) (.q a8 hg118) (.q a8 hg118) a8) ?_
  refine .q 4 hG ?_
  refine .e1 a8 a8 ?_
  refine congrArg AV.v ?_
  unfold A7
  (repeat (first|rw [if_pos (by omega)]|rw [if_neg (by omega)]))
  (try first|rfl|(rw [show G6 p.Kind=G6 1 by rw [hc10],a15])|(rw [show G6 p.Kind=G6 2 by rw [hc18],a16])|(rw [show G6 p.Kind=G6 3 by rw [hc31],a17]))
 ·refine .q 6 hG ⟨fun hc18 => ?_,fun hc18 => ?_⟩
  ·refine .E0 [j0,j1] (by kernel_rfl) 13 [[],[(20,0)],[],[(22,2)],[(23,3)],[(24,4)],[],[(26,6)],[(27,7)],[(25,5),(28,8)],[],[(30,10),(21,1)],[(29,9)]] [11] a8 (by kernel_rfl) a8 (by kernel_rfl) (by decide) ?_
   refine⟨_,fun H=>j6.A9 j4.l1 (fun x=>x.Mask) a0O a8 (fun _=>a8) (.t a8) a8,?_⟩
   refine⟨_,fun H=>j6.G9 a5U (.t a8) a8,?_⟩
   refine⟨_,fun H=>j6.A9 j4.l1 (fun x=>x.Mask) a0O a8 (fun _=>a8) (.t a8) a8,?_⟩
   refine⟨_,fun H=>j6.G9 a5U (.t a8) a8,?_⟩
   refine⟨_,fun H=>j6.b5h (.t a8) (.u64 0 a8) a8,?_⟩
   refine⟨_,fun H=>j6.move (.t a8) a8,?_⟩
   refine⟨_,fun H=>⟨_,_,a8,a8,fun hg26=>j6.A9 j4.l1 (fun x=>x.Mask) a0O a8 (fun _=>a8) (.t a8) a8⟩,?_⟩
   refine⟨_,fun H=>⟨_,_,a8,a8,fun hg27=>j6.G9 a5U (.q a8 hg27) a8⟩,?_⟩
   refine⟨_,fun H=>⟨_,_,a8,a8,fun hg28=>j6.c1j (.q a8 hg28) (.u64 4294967296 a8) a8⟩,?_⟩
   refine⟨_,fun H=>j6.T8 (.t a8) (fun hp=>(.q a8 hp)) a8,?_⟩
   refine⟨_,fun H=>j6.B0 j4.l1 a0O a8 (.t a8) a8,?_⟩
   refine .inl ?_
   refine⟨_,fun H=>j6.assign (.t a8) a8,?_⟩
   refine⟨⟨([],j2 [_,c8]),a8⟩,?_⟩
   refine A6.stF (fun y x => { x with Mask:=y }) a5U (.t rfl) (.t rfl) .z (fun _ _=>rfl) ?_
   refine⟨⟨([],j2 [_,c8]),a8⟩,?_⟩
   show D6 _ _ _ _ _ [] ((4,_)::(30,_)::(29,_)::(28,_)::(27,_)::(26,_)::(25,_)::(24,_)::(23,_)::(22,_)::(21,_)::(20,_)::_) _
   refine .q 7 hG ?_
   refine .go 115 a8 (.t a8) (fun hg118 => .a2b V9 (by decide) a8 (by kernel_rfl) (.q a8 hg118) (.q a8 hg118) a8) ?_
   refine .q 4 hG ?_
   refine .e1 a8 a8 ?_
   refine congrArg AV.v ?_
   unfold A7
   (repeat (first|rw [if_pos (by omega)]|rw [if_neg (by omega)]))
   (try first|rfl|(rw [show G6 p.Kind=G6 1 by rw [hc10],a15])|(rw [show G6 p.Kind=G6 2 by rw [hc18],a16])|(rw [show G6 p.Kind=G6 3 by rw [hc31],a17]))
  ·refine .q 6 hG ⟨fun hc31 => ?_,fun hc31 => ?_⟩
   ·refine .E0 [j0,j1] (by kernel_rfl) 13 [[],[(33,0)],[],[(35,2)],[(36,3)],[(37,4)],[],[(39,6)],[(40,7)],[(38,5),(41,8)],[],[(43,10),(34,1)],[(42,9)]] [11] a8 (by kernel_rfl) a8 (by kernel_rfl) (by decide) ?_
    refine⟨_,fun H=>j6.A9 j4.l1 (fun x=>x.Mask) a0O a8 (fun _=>a8) (.t a8) a8,?_⟩
    refine⟨_,fun H=>j6.G9 a5U (.t a8) a8,?_⟩
    refine⟨_,fun H=>j6.A9 j4.l1 (fun x=>x.Mask) a0O a8 (fun _=>a8) (.t a8) a8,?_⟩
    refine⟨_,fun H=>j6.G9 a5U (.t a8) a8,?_⟩
    refine⟨_,fun H=>j6.b5h (.t a8) (.u64 0 a8) a8,?_⟩
    refine⟨_,fun H=>j6.move (.t a8) a8,?_⟩
    refine⟨_,fun H=>⟨_,_,a8,a8,fun hg39=>j6.A9 j4.l1 (fun x=>x.Mask) a0O a8 (fun _=>a8) (.t a8) a8⟩,?_⟩
    refine⟨_,fun H=>⟨_,_,a8,a8,fun hg40=>j6.G9 a5U (.q a8 hg40) a8⟩,?_⟩
    refine⟨_,fun H=>⟨_,_,a8,a8,fun hg41=>j6.c1j (.q a8 hg41) (.u64 128 a8) a8⟩,?_⟩
    refine⟨_,fun H=>j6.T8 (.t a8) (fun hp=>(.q a8 hp)) a8,?_⟩
    refine⟨_,fun H=>j6.B0 j4.l1 a0O a8 (.t a8) a8,?_⟩
    refine .inl ?_
    refine⟨_,fun H=>j6.assign (.t a8) a8,?_⟩
    refine⟨⟨([],j2 [_,c8]),a8⟩,?_⟩
    refine A6.stF (fun y x => { x with Mask:=y }) a5U (.t rfl) (.t rfl) .z (fun _ _=>rfl) ?_
    refine⟨⟨([],j2 [_,c8]),a8⟩,?_⟩
    show D6 _ _ _ _ _ [] ((4,_)::(43,_)::(42,_)::(41,_)::(40,_)::(39,_)::(38,_)::(37,_)::(36,_)::(35,_)::(34,_)::(33,_)::_) _
    refine .q 7 hG ?_
    refine .go 115 a8 (.t a8) (fun hg118 => .a2b V9 (by decide) a8 (by kernel_rfl) (.q a8 hg118) (.q a8 hg118) a8) ?_
    refine .q 4 hG ?_
    refine .e1 a8 a8 ?_
    refine congrArg AV.v ?_
    unfold A7
    (repeat (first|rw [if_pos (by omega)]|rw [if_neg (by omega)]))
    (try first|rfl|(rw [show G6 p.Kind=G6 1 by rw [hc10],a15])|(rw [show G6 p.Kind=G6 2 by rw [hc18],a16])|(rw [show G6 p.Kind=G6 3 by rw [hc31],a17]))
   ·refine .q 6 hG ⟨fun hc44 => ?_,fun hc44 => ?_⟩
    ·refine .E0 [j0,j1] (by kernel_rfl) 24 [[],[(46,0)],[],[(48,2)],[],[(50,4)],[(51,5)],[(52,6)],[],[(54,8)],[],[(56,10)],[(55,9),(57,11)],[(53,7),(58,12)],[(59,13)],[],[(61,15)],[(62,16)],[(60,14),(63,17)],[],[(65,19),(47,1)],[],[(66,21),(49,3)],[(64,18)]] [20,22] a8 (by kernel_rfl) a8 (by kernel_rfl) (by decide) ?_
     refine⟨_,fun H=>j6.A9 j4.l2 (fun x=>x.M7) M4 a8 (fun _=>a8) (.t a8) a8,?_⟩
     refine⟨_,fun H=>j6.G9 R3 (.t a8) a8,?_⟩
     refine⟨_,fun H=>j6.A9 j4.l3 (fun x=>x.To) M5 a8 (fun _=>a8) (.t a8) a8,?_⟩
     refine⟨_,fun H=>j6.G9 R3 (.t a8) a8,?_⟩
     refine⟨_,fun H=>j6.A9 j4.l2 (fun x=>x.M7) M4 a8 (fun _=>a8) (.t a8) a8,?_⟩
     refine⟨_,fun H=>j6.G9 R3 (.t a8) a8,?_⟩
     refine⟨_,fun H=>j6.geq (.t a8) (.i a8) a8,?_⟩
     refine⟨_,fun H=>j6.move (.t a8) a8,?_⟩
     refine⟨_,fun H=>⟨_,_,a8,a8,fun hg54=>j6.A9 j4.l2 (fun x=>x.M7) M4 a8 (fun _=>a8) (.t a8) a8⟩,?_⟩
     refine⟨_,fun H=>⟨_,_,a8,a8,fun hg55=>j6.G9 R3 (.q a8 hg55) a8⟩,?_⟩
     refine⟨_,fun H=>⟨_,_,a8,a8,fun hg56=>j6.A9 j4.l3 (fun x=>x.To) M5 a8 (fun _=>a8) (.t a8) a8⟩,?_⟩
     refine⟨_,fun H=>⟨_,_,a8,a8,fun hg57=>j6.G9 R3 (.q a8 hg57) a8⟩,?_⟩
     refine⟨_,fun H=>⟨_,_,a8,a8,fun hg58=>j6.leq (.q a8 hg58) (.q a8 hg58) a8⟩,?_⟩
     refine⟨_,fun H=>j6.T8 (.t a8) (fun hp=>(.q a8 hp)) a8,?_⟩
     refine⟨_,fun H=>j6.move (.t a8) a8,?_⟩
     refine⟨_,fun H=>⟨_,_,a8,a8,fun hg61=>j6.A9 j4.l3 (fun x=>x.To) M5 a8 (fun _=>a8) (.t a8) a8⟩,?_⟩
     refine⟨_,fun H=>⟨_,_,a8,a8,fun hg62=>j6.G9 R3 (.q a8 hg62) a8⟩,?_⟩
     refine⟨_,fun H=>⟨_,_,a8,a8,fun hg63=>j6.leq (.q a8 hg63) (.i a8) a8⟩,?_⟩
     refine⟨_,fun H=>j6.T8 (.t a8) (fun hp=>(.q a8 hp)) a8,?_⟩
     refine⟨_,fun H=>j6.B0 j4.l2 M4 a8 (.t a8) a8,?_⟩
     refine .inl ?_
     refine⟨_,fun H=>j6.B0 j4.l3 M5 a8 (.t a8) a8,?_⟩
     refine .inl ?_
     refine⟨_,fun H=>j6.assign (.t a8) a8,?_⟩
     refine⟨⟨([],j2 [_,c8]),a8⟩,?_⟩
     refine A6.stF (fun y x => { x with M7:=y }) R3 (.t rfl) (.t rfl) .z (fun _ _=>rfl) ?_
     refine⟨⟨([],j2 [_,c8]),a8⟩,?_⟩
     refine A6.stF (fun y x => { x with To:=y }) R3 (.t rfl) (.t rfl) .z (fun _ _=>rfl) ?_
     refine⟨⟨([],j2 [_,c8]),a8⟩,?_⟩
     show D6 _ _ _ _ _ [] ((4,_)::(66,_)::(65,_)::(64,_)::(63,_)::(62,_)::(61,_)::(60,_)::(59,_)::(58,_)::(57,_)::(56,_)::(55,_)::(54,_)::(53,_)::(52,_)::(51,_)::(50,_)::(49,_)::(48,_)::(47,_)::(46,_)::_) _
     refine .q 7 hG ?_
     refine .go 115 a8 (.t a8) (fun hg118 => .a2b V9 (by decide) a8 (by kernel_rfl) (.q a8 hg118) (.q a8 hg118) a8) ?_
     refine .q 4 hG ?_
     refine .e1 a8 a8 ?_
     refine congrArg AV.v ?_
     unfold A7
     (repeat (first|rw [if_pos (by omega)]|rw [if_neg (by omega)]))
     (try first|rfl|(rw [show G6 p.Kind=G6 1 by rw [hc10],a15])|(rw [show G6 p.Kind=G6 2 by rw [hc18],a16])|(rw [show G6 p.Kind=G6 3 by rw [hc31],a17]))
    ·refine .q 6 hG ⟨fun hc67 => ?_,fun hc67 => ?_⟩
     ·refine .E0 [j0,j1] (by kernel_rfl) 27 [[],[(69,0)],[],[(71,2)],[],[(73,4)],[(74,5)],[(75,6)],[],[(77,8)],[(78,9)],[(76,7),(79,10)],[(80,11)],[],[(82,13)],[(83,14)],[(81,12),(84,15)],[(85,16)],[],[(87,18)],[(88,19)],[(86,17),(89,20)],[],[(91,22),(70,1)],[],[(92,24),(72,3)],[(90,21)]] [23,25] a8 (by kernel_rfl) a8 (by kernel_rfl) (by decide) ?_
      refine⟨_,fun H=>j6.A9 j4.l2 (fun x=>x.M7) M4 a8 (fun _=>a8) (.t a8) a8,?_⟩
      refine⟨_,fun H=>j6.G9 R3 (.t a8) a8,?_⟩
      refine⟨_,fun H=>j6.A9 j4.l3 (fun x=>x.To) M5 a8 (fun _=>a8) (.t a8) a8,?_⟩
      refine⟨_,fun H=>j6.G9 R3 (.t a8) a8,?_⟩
      refine⟨_,fun H=>j6.A9 j4.l2 (fun x=>x.M7) M4 a8 (fun _=>a8) (.t a8) a8,?_⟩
      refine⟨_,fun H=>j6.G9 R3 (.t a8) a8,?_⟩
      refine⟨_,fun H=>j6.geq (.t a8) (.i a8) a8,?_⟩
      refine⟨_,fun H=>j6.move (.t a8) a8,?_⟩
      refine⟨_,fun H=>⟨_,_,a8,a8,fun hg77=>j6.A9 j4.l2 (fun x=>x.M7) M4 a8 (fun _=>a8) (.t a8) a8⟩,?_⟩
      refine⟨_,fun H=>⟨_,_,a8,a8,fun hg78=>j6.G9 R3 (.q a8 hg78) a8⟩,?_⟩
      refine⟨_,fun H=>⟨_,_,a8,a8,fun hg79=>j6.lss (.q a8 hg79) (.i a8) a8⟩,?_⟩
      refine⟨_,fun H=>j6.T8 (.t a8) (fun hp=>(.q a8 hp)) a8,?_⟩
      refine⟨_,fun H=>j6.move (.t a8) a8,?_⟩
      refine⟨_,fun H=>⟨_,_,a8,a8,fun hg82=>j6.A9 j4.l3 (fun x=>x.To) M5 a8 (fun _=>a8) (.t a8) a8⟩,?_⟩
      refine⟨_,fun H=>⟨_,_,a8,a8,fun hg83=>j6.G9 R3 (.q a8 hg83) a8⟩,?_⟩
      refine⟨_,fun H=>⟨_,_,a8,a8,fun hg84=>j6.geq (.q a8 hg84) (.i a8) a8⟩,?_⟩
      refine⟨_,fun H=>j6.T8 (.t a8) (fun hp=>(.q a8 hp)) a8,?_⟩
      refine⟨_,fun H=>j6.move (.t a8) a8,?_⟩
      refine⟨_,fun H=>⟨_,_,a8,a8,fun hg87=>j6.A9 j4.l3 (fun x=>x.To) M5 a8 (fun _=>a8) (.t a8) a8⟩,?_⟩
      refine⟨_,fun H=>⟨_,_,a8,a8,fun hg88=>j6.G9 R3 (.q a8 hg88) a8⟩,?_⟩
      refine⟨_,fun H=>⟨_,_,a8,a8,fun hg89=>j6.lss (.q a8 hg89) (.i a8) a8⟩,?_⟩
      refine⟨_,fun H=>j6.T8 (.t a8) (fun hp=>(.q a8 hp)) a8,?_⟩
      refine⟨_,fun H=>j6.B0 j4.l2 M4 a8 (.t a8) a8,?_⟩
      refine .inl ?_
      refine⟨_,fun H=>j6.B0 j4.l3 M5 a8 (.t a8) a8,?_⟩
      refine .inl ?_
      refine⟨_,fun H=>j6.assign (.t a8) a8,?_⟩
      refine⟨⟨([],j2 [_,c8]),a8⟩,?_⟩
      refine A6.stF (fun y x => { x with M7:=y }) R3 (.t rfl) (.t rfl) .z (fun _ _=>rfl) ?_
      refine⟨⟨([],j2 [_,c8]),a8⟩,?_⟩
      refine A6.stF (fun y x => { x with To:=y }) R3 (.t rfl) (.t rfl) .z (fun _ _=>rfl) ?_
      refine⟨⟨([],j2 [_,c8]),a8⟩,?_⟩
      show D6 _ _ _ _ _ [] ((4,_)::(92,_)::(91,_)::(90,_)::(89,_)::(88,_)::(87,_)::(86,_)::(85,_)::(84,_)::(83,_)::(82,_)::(81,_)::(80,_)::(79,_)::(78,_)::(77,_)::(76,_)::(75,_)::(74,_)::(73,_)::(72,_)::(71,_)::(70,_)::(69,_)::_) _
      refine .q 7 hG ?_
      refine .go 115 a8 (.t a8) (fun hg118 => .a2b V9 (by decide) a8 (by kernel_rfl) (.q a8 hg118) (.q a8 hg118) a8) ?_
      refine .q 4 hG ?_
      refine .e1 a8 a8 ?_
      refine congrArg AV.v ?_
      unfold A7
      (repeat (first|rw [if_pos (by omega)]|rw [if_neg (by omega)]))
      (try first|rfl|(rw [show G6 p.Kind=G6 1 by rw [hc10],a15])|(rw [show G6 p.Kind=G6 2 by rw [hc18],a16])|(rw [show G6 p.Kind=G6 3 by rw [hc31],a17]))
     ·refine .q 6 hG ⟨fun hc93 => ?_,fun hc93 => ?_⟩
      ·refine .draw (by kernel_rfl) 6 [[],[(95,0)],[],[(97,2)],[(98,3)],[]] a8 (by kernel_rfl) a8 ?_
       refine⟨_,j6.A9 j4.l4 (fun x=>x.Name) b0h a8 (fun _=>a8) (.t a8) a8,?_⟩
       refine⟨_,j6.G9 ty9 (.t a8) a8,?_⟩
       refine⟨_,j6.A9 j4.l4 (fun x=>x.Name) b0h a8 (fun _=>a8) (.t a8) a8,?_⟩
       refine⟨_,j6.G9 ty9 (.t a8) a8,?_⟩
       refine⟨_,j6.o9 hG (b3P _) (.cons (.t a8) .nil) a8,?_⟩
       refine⟨_,j6.B0 j4.l4 b0h a8 (.t a8) a8,?_⟩
       show D6 _ _ _ _ _ [_,_] ((100,_)::(99,_)::(98,_)::(97,_)::(96,_)::(95,_)::_) _
       refine .q 9 hG ?_
       refine .go 115 a8 (.t a8) (fun hg118 => .a2b V9 (by decide) a8 (by kernel_rfl) (.q a8 hg118) (.q a8 hg118) a8) ?_
       refine .q 4 hG ?_
       refine .e1 a8 a8 ?_
       refine congrArg AV.v ?_
       unfold A7
       (repeat (first|rw [if_pos (by omega)]|rw [if_neg (by omega)]))
       (try first|rfl|(rw [show G6 p.Kind=G6 1 by rw [hc10],a15])|(rw [show G6 p.Kind=G6 2 by rw [hc18],a16])|(rw [show G6 p.Kind=G6 3 by rw [hc31],a17]))
      ·refine .q 6 hG ⟨fun hc101 => ?_,fun hc101 => ?_⟩
       ·refine .E0 [j0,j1] (by kernel_rfl) 13 [[],[(103,0)],[],[(105,2)],[(106,3)],[(107,4)],[],[(109,6)],[(110,7)],[(108,5),(111,8)],[],[(113,10),(104,1)],[(112,9)]] [11] a8 (by kernel_rfl) a8 (by kernel_rfl) (by decide) ?_
        refine⟨_,fun H=>j6.A9 j4.l5 (fun x=>x.Number) a8w a8 (fun _=>a8) (.t a8) a8,?_⟩
        refine⟨_,fun H=>j6.G9 R3 (.t a8) a8,?_⟩
        refine⟨_,fun H=>j6.A9 j4.l5 (fun x=>x.Number) a8w a8 (fun _=>a8) (.t a8) a8,?_⟩
        refine⟨_,fun H=>j6.G9 R3 (.t a8) a8,?_⟩
        refine⟨_,fun H=>j6.geq (.t a8) (.i a8) a8,?_⟩
        refine⟨_,fun H=>j6.move (.t a8) a8,?_⟩
        refine⟨_,fun H=>⟨_,_,a8,a8,fun hg109=>j6.A9 j4.l5 (fun x=>x.Number) a8w a8 (fun _=>a8) (.t a8) a8⟩,?_⟩
        refine⟨_,fun H=>⟨_,_,a8,a8,fun hg110=>j6.G9 R3 (.q a8 hg110) a8⟩,?_⟩
        refine⟨_,fun H=>⟨_,_,a8,a8,fun hg111=>j6.leq (.q a8 hg111) (.i a8) a8⟩,?_⟩
        refine⟨_,fun H=>j6.T8 (.t a8) (fun hp=>(.q a8 hp)) a8,?_⟩
        refine⟨_,fun H=>j6.B0 j4.l5 a8w a8 (.t a8) a8,?_⟩
        refine .inl ?_
        refine⟨_,fun H=>j6.assign (.t a8) a8,?_⟩
        refine⟨⟨([],j2 [_,c8]),a8⟩,?_⟩
        refine A6.stF (fun y x => { x with Number:=y }) R3 (.t rfl) (.t rfl) .z (fun _ _=>rfl) ?_
        refine⟨⟨([],j2 [_,c8]),a8⟩,?_⟩
        show D6 _ _ _ _ _ [] ((4,_)::(113,_)::(112,_)::(111,_)::(110,_)::(109,_)::(108,_)::(107,_)::(106,_)::(105,_)::(104,_)::(103,_)::_) _
        refine .q 7 hG ?_
        refine .go 115 a8 (.t a8) (fun hg118 => .a2b V9 (by decide) a8 (by kernel_rfl) (.q a8 hg118) (.q a8 hg118) a8) ?_
        refine .q 4 hG ?_
        refine .e1 a8 a8 ?_
        refine congrArg AV.v ?_
        unfold A7
        (repeat (first|rw [if_pos (by omega)]|rw [if_neg (by omega)]))
        (try first|rfl|(rw [show G6 p.Kind=G6 1 by rw [hc10],a15])|(rw [show G6 p.Kind=G6 2 by rw [hc18],a16])|(rw [show G6 p.Kind=G6 3 by rw [hc31],a17]))
       ·refine .q 7 hG ?_
        refine .go 115 a8 (.t a8) (fun hg118 => .a2b V9 (by decide) a8 (by kernel_rfl) (.q a8 hg118) (.q a8 hg118) a8) ?_
        refine .q 4 hG ?_
        refine .e1 a8 a8 ?_
        refine congrArg AV.v ?_
        unfold A7
        (repeat (first|rw [if_pos (by omega)]|rw [if_neg (by omega)]))
        (try first|rfl|(rw [show G6 p.Kind=G6 1 by rw [hc10],a15])|(rw [show G6 p.Kind=G6 2 by rw [hc18],a16])|(rw [show G6 p.Kind=G6 3 by rw [hc31],a17]))
def u6 (p:Pred):List UInt8:=J7 p.Kind.toNat++(if p.Kind=4∨p.Kind=5 then J7 p.M7.toNat++J7 p.To.toNat else if p.Kind=6 then J7 p.Name.l.length++p.Name.l else if p.Kind=7 then J7 p.Number.toNat else R9 p.Mask 8)
def V1 (p:Pred):List UInt8×Int:=if A7 p then (u6 p,0) else ([],5)
theorem y3 {p:Pred} (h:A7 p=true):V1 p=(u6 p,0):=by unfold V1;rw [if_pos h]
theorem B3 {p:Pred} (h:¬A7 p=true):V1 p=([],5):=by unfold V1;rw [if_neg h]
structure b8t (p:Pred):Prop where
 kind:1≤p.Kind∧p.Kind≤7
 from_:0≤p.M7∧p.M7≤67108864
 to:0≤p.To∧p.To≤67108864
 name:p.Name.l.length≤16
 num:0≤p.Number∧p.Number≤1000000
theorem K6 {p:Pred} (h:A7 p=true):b8t p:=by
 unfold A7 at h
 obtain⟨k,m,f,t,n,u⟩:=p
 dsimp only at h
 split at h
 ·next hk=>simp only [Bool.and_eq_true,decide_eq_true_eq,j4.mk.injEq] at h;obtain⟨_,_,_,rfl,rfl,rfl,rfl⟩:=h;exact⟨by dsimp only;omega,by simp,by simp,by simp,by simp⟩
 ·split at h
  ·next hk=>simp only [Bool.and_eq_true,decide_eq_true_eq,j4.mk.injEq] at h;obtain⟨h1,_,_,_,_,rfl,rfl⟩:=h;exact⟨by dsimp only;omega,by dsimp only;omega,by dsimp only;omega,by simp,by simp⟩
  ·split at h
   ·next hk=>simp only [Bool.and_eq_true,decide_eq_true_eq,j4.mk.injEq] at h;obtain⟨h1,_,_,_,_,rfl,rfl⟩:=h;exact⟨by dsimp only;omega,by dsimp only;omega,by dsimp only;omega,by simp,by simp⟩
   ·split at h
    ·next hk =>
     simp only [Bool.and_eq_true,decide_eq_true_eq,j4.mk.injEq] at h;obtain⟨h1,_,_,rfl,rfl,_,rfl⟩:=h
     unfold T9 at h1;simp only [Bool.and_eq_true,decide_eq_true_eq] at h1
     exact⟨by dsimp only;omega,by simp,by simp,by dsimp only;omega,by simp⟩
    ·split at h
     ·next hk=>simp only [Bool.and_eq_true,decide_eq_true_eq,j4.mk.injEq] at h;obtain⟨h1,_,_,rfl,rfl,rfl,_⟩:=h;exact⟨by dsimp only;omega,by simp,by simp,by simp,by dsimp only;omega⟩
     ·cases h
theorem H7 {p:Pred} (h:b8t p):(u6 p).length≤24:=by
 have l1:=B2 (n:=p.Kind.toNat) (by have:=h.kind;omega)
 have l2:=B2 (n:=p.M7.toNat) (by have:=h.from_;omega)
 have l3:=B2 (n:=p.To.toNat) (by have:=h.to;omega)
 have l4:=B2 (n:=p.Name.l.length) (by have:=h.name;omega)
 have l5:=B2 (n:=p.Number.toNat) (by have:=h.num;omega)
 have l6:=h.name
 have l0:(J7 p.Kind.toNat).length≤1:=a4K 0 _ (by have:=h.kind;omega)
 have l7:(J7 p.Name.l.length).length≤1:=a4K 0 _ (by omega)
 unfold u6
 rw [List.length_append]
 split
 ·rw [List.length_append];omega
 ·split
  ·rw [List.length_append];omega
  ·split
   ·omega
   ·rw [E1];omega
def numsL (l:List Int):List UInt8:=(l.map fun n=>J7 n.toNat).flatten
theorem a52 (l:List Int) (k:Nat) (h:k < l.length):numsL (l.take (k+1))=numsL (l.take k)++J7 (l[k]).toNat:=by
 unfold numsL;rw [List.take_succ_eq_append_getElem h,List.map_append,List.flatten_append];simp
theorem a1D (l:List Int) (h:∀ n∈l,0≤n∧n≤281474976710656):(numsL l).length≤7*l.length:=by
 induction l with
 | nil=>simp [numsL]
 | cons n l ih =>
  have h1:=B2 (n:=n.toNat) (by have:=h n (by simp);omega)
  have h2:=ih fun m hm=>h m (by simp [hm])
  unfold numsL at h2 ⊢
  rw [List.map_cons,List.flatten_cons,List.length_append,List.length_cons];omega
theorem a6w (b:List UInt8) (l:List Int) (hb:b.length≤600000) (hl:0 < l.length) (hl2:l.length≤1000) (h:∀ n∈l,0≤n∧n≤281474976710656):F5 gl prog 194 [.v b,.v l] [] (fun r Hs=>∃ u,r = .raw u∧Hs = [.own 5 u (b++numsL l)]):=by
 refine F5.Q4 func194 rfl (by kernel_rfl) 21 rfl rfl _ rfl _ rfl fun C hC hG => ?_
 refine .q 6 hG ?_
 refine .name 0 a8 fun w0=>(.C4 5 .z ?_)
 refine .q 6 hG ?_
 refine .E3 (α:=Nat×Value×List UInt8×Bool) [(7,_),(8,_)] (fun x R=>(0,.raw x.2.1)::(9,.v (x.1:Int))::R) (fun x => [(true,.usr x.2.1 (OF.mk 5 x.2.2.1 x.2.2.2))]) (fun x=>x.1≤l.length∧x.2.2.1=b++numsL (l.take x.1)∧(0 < x.1→x.2.2.2=true)) (fun x=>l.length - x.1) ((0,w0,b,false)) (.c2 a8 a8 (.nil _)) ?_ (.c2 a8 a8 (.c2 a8 a8 (.nil _))) (a8) fun x hF => ?_
 ·exact⟨Nat.zero_le _,by simp [numsL],by simp⟩
 obtain⟨k,w,c,o⟩:=x
 obtain⟨h1,h2,h3⟩:=hF
 dsimp only at h1 h2 h3 ⊢
 have hlen9:=a1D (l.take k) (fun n hn=>h n (List.mem_of_mem_take hn))
 have hc9:c.length≤607000:=(by rw [h2,List.length_append];have:(l.take k).length≤l.length:=(by simp<;>omega);omega)
 refine .q 6 hG ⟨fun hc10 => ?_,fun hc10 => ?_⟩
 ·refine .q 5 hG ?_
  refine .ix (by omega) (by omega) ?_
  refine .q 3 hG ?_
  refine .c1i hC .z (.as 0 a8 .z (.drop ?_))
  refine .q 3 hG ?_
  refine .h (.a08 hG (a1B _ _ (by simp<;>omega) (h _ (List.getElem_mem _)).1 (h _ (List.getElem_mem _)).2) (.cons (.t a8) (.cons (.t a8) .nil)) fun r16 Hs16 hr16 => ?_)
  obtain⟨u16,rfl,rfl⟩:=hr16
  show D6 _ _ _ _ _ _ _ ((true,_)::_)
  refine .q 5 hG ?_
  refine .c1g .z ?_
  refine .q 1 hG ?_
  refine .ad (by omega) (by omega) ?_
  refine .q 2 hG ?_
  refine⟨(k+1,u16,_,true),.c2 rfl rfl (.c2 rfl rfl (.nil _)),rfl,?_,by dsimp only;omega⟩
  exact⟨by dsimp only;omega,by dsimp only;rw [a52 l k (by omega),←List.append_assoc,←h2];rfl,fun _=>rfl⟩
 ·refine .q 2 hG ?_
  refine .c1h (h3 (by omega)) .z ?_
  refine .q 5 hG ?_
  refine .e1 a8 a8 ?_
  refine⟨_,.cons .z (.nil),?_⟩
  exact⟨_,rfl,by rw [h2,List.take_of_length_le (by omega)]⟩
theorem a36 (b:List UInt8) (l:List Int) (hb:b.length≤600000) (hl:0 < l.length) (hl2:l.length≤1000) (h:∀ n∈l,0≤n∧n≤281474976710656):u1 gl prog 194 [.v b,.v l] (fun r=>r = .v (b++numsL l)):=(a6w b l hb hl hl2 h).b0C
theorem a65 (p:Pred):u1 gl prog 159 [.v p] (fun r=>r = .t2 (.v (V1 p).1) (.v (V1 p).2)):=by
 refine u1.jn func159 (by kernel_rfl) 54 rfl fun C hC hG => ?_
 refine .q 3 hG fun b1 => ?_
 refine .q 5 hG ?_
 refine .A8 hC .z (.O5 1 a8 .z ?_)
 refine .q 2 hG ?_
 refine .k hG (a4L _) ?_
 refine .q 2 hG ?_
 refine .cond (.t a8) (fun hc8 => ?_) (fun hc8 => ?_)
 ·refine .q 6 hG ?_
  refine .e2 a8 a8 a8 ?_
  first|(exfalso;omega)|(rw [B3 (by simpa using hc8)])|(rw [y3 hpo];unfold u6;(repeat (first|rw [if_pos (by omega)]|rw [if_neg (by omega)]));(try simp [numsL]);done)|(obtain rfl:j=8:=(by omega);rw [y3 hpo];unfold u6;(repeat (first|rw [if_pos (by omega)]|rw [if_neg (by omega)]));simp [numsL])
 ·refine .q 2 hG ?_
  have hpo:A7 p=true:=by simpa using hc8
  have hp:=K6 hpo
  have hp4:=hp.name
  have hk1:(numsL [p.Kind]).length≤7:=a1D [p.Kind] (by have:=hp.kind;simp;omega)
  refine .q 3 hG ?_
  refine .bs a8 (by decide) fun b11=>(.u0 hC .z (.as 11 a8 .z (.h (.a08 hG (a6w _ _ (by decide) (by simp) (by simp) (by have:=hp.kind;simp;omega)) (.cons .b3x (.cons (.t a8) .nil)) fun r12 Hs12 hr12 => ?_))))
  obtain⟨u12,rfl,rfl⟩:=hr12
  show D6 _ _ _ _ _ _ _ ((true,_)::_)
  refine .q 16 hG ⟨fun hc15 => ?_,fun hc15 => ?_⟩
  ·refine .q 2 hG ⟨fun hc15 => ?_,fun hc15 => ?_⟩
   ·refine .q 1 hG ?_
    refine .u0 hC .z (.as 4 a8 .z ?_)
    refine .q 6 hG ?_
    refine .bs a8 (by decide) fun b23=>(.u0 hC .z (.as 23 a8 .z (.p (.o9 hG (a36 _ _ (by simp<;>omega) (by simp) (by simp) (by have:=hp.from_;have:=hp.to;simp;omega)) (.cons (.t a8) (.cons (.t a8) .nil)) ?_))))
    refine .q 4 hG ?_
    refine .e2 a8 a8 a8 ?_
    first|(exfalso;omega)|(rw [B3 (by simpa using hc8)])|(rw [y3 hpo];unfold u6;(repeat (first|rw [if_pos (by omega)]|rw [if_neg (by omega)]));(try simp [numsL]);done)|(obtain rfl:j=8:=(by omega);rw [y3 hpo];unfold u6;(repeat (first|rw [if_pos (by omega)]|rw [if_neg (by omega)]));simp [numsL])
   ·refine .q 6 hG ⟨fun hc25 => ?_,fun hc25 => ?_⟩
    ·refine .q 1 hG ?_
     refine .u0 hC .z (.as 4 a8 .z ?_)
     refine .q 4 hG ?_
     refine .h (.X9 underlying9 underlying86 underlying5 (.t a8) fun w30=>(.u0 hC .z (.as 30 a8 .z (.p (.o9 hG (b0Q _ _ (by omega) (by omega)) (.cons (.t a8) (.cons (.t a8) .nil)) ?_)))))
     refine .q 6 hG ?_
     refine .e2 a8 a8 a8 ?_
     first|(exfalso;omega)|(rw [B3 (by simpa using hc8)])|(rw [y3 hpo];unfold u6;(repeat (first|rw [if_pos (by omega)]|rw [if_neg (by omega)]));(try simp [numsL]);done)|(obtain rfl:j=8:=(by omega);rw [y3 hpo];unfold u6;(repeat (first|rw [if_pos (by omega)]|rw [if_neg (by omega)]));simp [numsL])
    ·refine .q 6 hG ⟨fun hc34 => ?_,fun hc34 => ?_⟩
     ·refine .q 1 hG ?_
      refine .u0 hC .z (.as 4 a8 .z ?_)
      refine .q 4 hG ?_
      refine .bs a8 (by decide) fun b39=>(.u0 hC .z (.as 39 a8 .z (.p (.o9 hG (a36 _ _ (by simp<;>omega) (by simp) (by simp) (by have:=hp.num;simp;omega)) (.cons (.t a8) (.cons (.t a8) .nil)) ?_))))
      refine .q 4 hG ?_
      refine .e2 a8 a8 a8 ?_
      first|(exfalso;omega)|(rw [B3 (by simpa using hc8)])|(rw [y3 hpo];unfold u6;(repeat (first|rw [if_pos (by omega)]|rw [if_neg (by omega)]));(try simp [numsL]);done)|(obtain rfl:j=8:=(by omega);rw [y3 hpo];unfold u6;(repeat (first|rw [if_pos (by omega)]|rw [if_neg (by omega)]));simp [numsL])
     ·refine .q 7 hG ?_
      refine .E3 (α:=Nat×Value) [(1,_)] (fun x R=>(4,.raw x.2)::(5,.v (56 - 8*(x.1:Int)))::R) (fun x => [(true,.own 5 x.2 (numsL [p.Kind]++R9 p.Mask x.1)),(true,.fz (slc b11 0 1 1) (.v [p.Kind])),(true,.fz (ptr b1 0) (.p p))]) (fun x=>x.1≤8) (fun x=>8 - x.1) ((0,u12)) (.cons a8 (.nil _)) ?_ (.c2 a8 a8 (.cons a8 (.nil _))) (congrArg (fun q => [(true,E4.own _ _ q),_,_]) (by simp [R9])) fun x hF => ?_
      ·simp
      obtain⟨j,w⟩:=x
      dsimp only at hF ⊢
      have hk2:=E1 p.Mask j
      refine .q 7 hG ⟨fun hc42 => ?_,fun hc42 => ?_⟩
      ·refine .q 8 hG ?_
       refine .p (.b3U (.t a8) (.t a8) (by omega) (by omega) (.p (.a2v underlying77 underlying5 (.t a8) ?_)))
       refine .bs a8 (by decide) fun b51 => ?_
       refine .ap (by omega) (by omega) fun w52 => ?_
       refine .q 1 hG ?_
       refine .drop ?_
       refine .q 3 hG ?_
       refine .sb (by omega) (by omega) ?_
       refine .q 2 hG ?_
       refine⟨(j+1,w52),.cons rfl (.cons (congrArg (fun q=>some (AV.v q)) (by dsimp only;omega)) (.cons rfl (.nil _))),congrArg (fun q => [(true,E4.own _ _ q),_,_]) (by dsimp only;rw [a1w,show(56 - 8*(j:Int)).toNat=56 - 8*j by omega];try simp),?_,by dsimp only;omega⟩
       dsimp only;omega
      ·refine .q 2 hG ?_
       refine .u0 hC .z (.as 4 a8 .z ?_)
       refine .q 6 hG ?_
       refine .e2 a8 a8 a8 ?_
       first|(exfalso;omega)|(rw [B3 (by simpa using hc8)])|(rw [y3 hpo];unfold u6;(repeat (first|rw [if_pos (by omega)]|rw [if_neg (by omega)]));(try simp [numsL]);done)|(obtain rfl:j=8:=(by omega);rw [y3 hpo];unfold u6;(repeat (first|rw [if_pos (by omega)]|rw [if_neg (by omega)]));simp [numsL])
  ·refine .q 5 hG ⟨fun hc15 => ?_,fun hc15 => ?_⟩
   ·refine .q 1 hG ?_
    refine .u0 hC .z (.as 4 a8 .z ?_)
    refine .q 6 hG ?_
    refine .bs a8 (by decide) fun b23=>(.u0 hC .z (.as 23 a8 .z (.p (.o9 hG (a36 _ _ (by simp<;>omega) (by simp) (by simp) (by have:=hp.from_;have:=hp.to;simp;omega)) (.cons (.t a8) (.cons (.t a8) .nil)) ?_))))
    refine .q 4 hG ?_
    refine .e2 a8 a8 a8 ?_
    first|(exfalso;omega)|(rw [B3 (by simpa using hc8)])|(rw [y3 hpo];unfold u6;(repeat (first|rw [if_pos (by omega)]|rw [if_neg (by omega)]));(try simp [numsL]);done)|(obtain rfl:j=8:=(by omega);rw [y3 hpo];unfold u6;(repeat (first|rw [if_pos (by omega)]|rw [if_neg (by omega)]));simp [numsL])
   ·refine .q 6 hG ⟨fun hc25 => ?_,fun hc25 => ?_⟩
    ·refine .q 1 hG ?_
     refine .u0 hC .z (.as 4 a8 .z ?_)
     refine .q 4 hG ?_
     refine .h (.X9 underlying9 underlying86 underlying5 (.t a8) fun w30=>(.u0 hC .z (.as 30 a8 .z (.p (.o9 hG (b0Q _ _ (by simp<;>omega) (by omega)) (.cons (.t a8) (.cons (.t a8) .nil)) ?_)))))
     refine .q 6 hG ?_
     refine .e2 a8 a8 a8 ?_
     first|(exfalso;omega)|(rw [B3 (by simpa using hc8)])|(rw [y3 hpo];unfold u6;(repeat (first|rw [if_pos (by omega)]|rw [if_neg (by omega)]));(try simp [numsL]);done)|(obtain rfl:j=8:=(by omega);rw [y3 hpo];unfold u6;(repeat (first|rw [if_pos (by omega)]|rw [if_neg (by omega)]));simp [numsL])
    ·refine .q 6 hG ⟨fun hc34 => ?_,fun hc34 => ?_⟩
     ·refine .q 1 hG ?_
      refine .u0 hC .z (.as 4 a8 .z ?_)
      refine .q 4 hG ?_
      refine .bs a8 (by decide) fun b39=>(.u0 hC .z (.as 39 a8 .z (.p (.o9 hG (a36 _ _ (by simp<;>omega) (by simp) (by simp) (by have:=hp.num;simp;omega)) (.cons (.t a8) (.cons (.t a8) .nil)) ?_))))
      refine .q 4 hG ?_
      refine .e2 a8 a8 a8 ?_
      first|(exfalso;omega)|(rw [B3 (by simpa using hc8)])|(rw [y3 hpo];unfold u6;(repeat (first|rw [if_pos (by omega)]|rw [if_neg (by omega)]));(try simp [numsL]);done)|(obtain rfl:j=8:=(by omega);rw [y3 hpo];unfold u6;(repeat (first|rw [if_pos (by omega)]|rw [if_neg (by omega)]));simp [numsL])
     ·refine .q 7 hG ?_
      refine .E3 (α:=Nat×Value) [(1,_)] (fun x R=>(4,.raw x.2)::(5,.v (56 - 8*(x.1:Int)))::R) (fun x => [(true,.own 5 x.2 (numsL [p.Kind]++R9 p.Mask x.1)),(true,.fz (slc b11 0 1 1) (.v [p.Kind])),(true,.fz (ptr b1 0) (.p p))]) (fun x=>x.1≤8) (fun x=>8 - x.1) ((0,u12)) (.cons a8 (.nil _)) ?_ (.c2 a8 a8 (.cons a8 (.nil _))) (congrArg (fun q => [(true,E4.own _ _ q),_,_]) (by simp [R9])) fun x hF => ?_
      ·simp
      obtain⟨j,w⟩:=x
      dsimp only at hF ⊢
      have hk2:=E1 p.Mask j
      refine .q 7 hG ⟨fun hc42 => ?_,fun hc42 => ?_⟩
      ·refine .q 8 hG ?_
       refine .p (.b3U (.t a8) (.t a8) (by omega) (by omega) (.p (.a2v underlying77 underlying5 (.t a8) ?_)))
       refine .bs a8 (by decide) fun b51 => ?_
       refine .ap (by simp<;>omega) (by simp<;>omega) fun w52 => ?_
       refine .q 1 hG ?_
       refine .drop ?_
       refine .q 3 hG ?_
       refine .sb (by omega) (by omega) ?_
       refine .q 2 hG ?_
       refine⟨(j+1,w52),.cons rfl (.cons (congrArg (fun q=>some (AV.v q)) (by dsimp only;omega)) (.cons rfl (.nil _))),congrArg (fun q => [(true,E4.own _ _ q),_,_]) (by dsimp only;rw [a1w,show(56 - 8*(j:Int)).toNat=56 - 8*j by omega];try simp),?_,by dsimp only;omega⟩
       dsimp only;omega
      ·refine .q 2 hG ?_
       refine .u0 hC .z (.as 4 a8 .z ?_)
       refine .q 6 hG ?_
       refine .e2 a8 a8 a8 ?_
       first|(exfalso;omega)|(rw [B3 (by simpa using hc8)])|(rw [y3 hpo];unfold u6;(repeat (first|rw [if_pos (by omega)]|rw [if_neg (by omega)]));(try simp [numsL]);done)|(obtain rfl:j=8:=(by omega);rw [y3 hpo];unfold u6;(repeat (first|rw [if_pos (by omega)]|rw [if_neg (by omega)]));simp [numsL])
theorem a54 (p:Pred):u1 gl prog 169 [.v p] (fun r=>r = .t2 (.v (V1 p).1) (.v (V1 p).2)):=by
 refine u1.jn func169 (by kernel_rfl) 50 rfl fun C hC hG => ?_
 refine .q 3 hG fun b1 => ?_
 refine .q 5 hG ?_
 refine .A8 hC .z (.O5 1 a8 .z ?_)
 refine .q 2 hG ?_
 refine .k hG (a1f _) ?_
 refine .q 2 hG ?_
 refine .cond (.t a8) (fun hc7 => ?_) (fun hc7 => ?_)
 ·refine .q 6 hG ?_
  refine .e2 a8 a8 a8 ?_
  first|(exfalso;omega)|(rw [B3 (by simpa using hc7)])|(rw [y3 hpo];unfold u6;(repeat (first|rw [if_pos (by omega)]|rw [if_neg (by omega)]));(try simp);done)
 ·refine .q 2 hG ?_
  have hpo:A7 p=true:=by simpa using hc7
  have hp:=K6 hpo
  have hpk:=hp.kind
  refine .q 3 hG ?_
  refine .h (.a08 hG (a25 _ (by omega) (by omega)) (.cons (.t a8) .nil) fun r10 Hs10 hr10 => ?_)
  obtain⟨u10,rfl,rfl⟩:=hr10
  show D6 _ _ _ _ _ _ _ ((true,_)::_)
  refine .q 4 hG ?_
  have hk2:=E1 p.Mask 8
  have hp1:=hp.from_
  have hp2:=hp.to
  have hp3:=hp.num
  have hp4:=hp.name
  have hk1:=B2 (n:=p.Kind.toNat) (by omega)
  have hk3:=B2 (n:=p.M7.toNat) (by omega)
  have hk4:=B2 (n:=p.To.toNat) (by omega)
  have hk5:=B2 (n:=p.Number.toNat) (by omega)
  have hk6:=B2 (n:=p.Name.l.length) (by omega)
  refine .q 12 hG ⟨fun hc13 => ?_,fun hc13 => ?_⟩
  ·refine .q 2 hG ⟨fun hc13 => ?_,fun hc13 => ?_⟩
   ·refine .q 4 hG ?_
    refine .k hG ((a2I _).b0C) ?_
    refine .ap (by omega) (by omega) fun w21 => ?_
    refine .q 3 hG ?_
    refine .u0 hC .z (.as 4 a8 .z ?_)
    refine .q 6 hG ?_
    refine .e2 a8 a8 a8 ?_
    first|(exfalso;omega)|(rw [B3 (by simpa using hc7)])|(rw [y3 hpo];unfold u6;(repeat (first|rw [if_pos (by omega)]|rw [if_neg (by omega)]));(try simp);done)
   ·refine .q 7 hG ⟨fun hc22 => ?_,fun hc22 => ?_⟩
    ·refine .q 2 hG ⟨fun hc22 => ?_,fun hc22 => ?_⟩
     ·refine .E0 [j0,j1] (by kernel_rfl) 10 [[],[],[(26,1)],[(27,2)],[(25,0),(28,3)],[],[(30,5)],[(31,6)],[(29,4),(32,7)],[(33,8)]] [0,4,8,9] a8 (by kernel_rfl) a8 (by kernel_rfl) (by decide) (.inl ?_)
      refine⟨_,fun H=>j6.A9 j4.l2 (fun x=>x.M7) M4 a8 (fun _=>a8) (.t a8) a8,?_⟩
      refine⟨_,fun H=>j6.G9 R3 (.t a8) a8,?_⟩
      refine⟨_,fun H=>j6.o9 hG (F4 _ (by omega) (by omega)) (.cons (.t a8) .nil) a8,?_⟩
      refine .inl ?_
      refine⟨_,fun H=>j6.A9 j4.l3 (fun x=>x.To) M5 a8 (fun _=>a8) (.t a8) a8,?_⟩
      refine⟨_,fun H=>j6.G9 R3 (.t a8) a8,?_⟩
      refine⟨_,fun H=>j6.o9 hG (F4 _ (by omega) (by omega)) (.cons (.t a8) .nil) a8,?_⟩
      refine .inl (.inl ?_)
      refine⟨⟨([],j2 [_,c8]),a8⟩,?_⟩
      refine A6.ofP (j6.move (.t rfl) ?_)
      refine⟨⟨([],j2 [_,c8]),a8⟩,?_⟩
      refine A6.append P4 (.inl ⟨_,underlying86⟩) rfl .z (.v (.t rfl)) (by omega) (by omega) (fun w29 => ?_) rfl
      refine⟨⟨([],j2 [_,c8]),a8⟩,?_⟩
      refine A6.append P4 (.inl ⟨_,underlying86⟩) rfl .z (.v (.t rfl)) (by omega) (by omega) (fun w33 => ?_) rfl
      refine⟨⟨([],j2 [_,c8]),a8⟩,?_⟩
      refine A6.ofP (j6.assign (.t rfl) ?_)
      refine⟨⟨([],j2 [_,c8]),a8⟩,?_⟩
      show D6 _ _ _ _ _ [] ((4,_)::(33,_)::(32,_)::(31,_)::(30,_)::(29,_)::(28,_)::(27,_)::(26,_)::(25,_)::_) _
      refine .q 2 hG ?_
      refine .u0 hC .z (.as 4 a8 .z ?_)
      refine .q 6 hG ?_
      refine .e2 a8 a8 a8 ?_
      first|(exfalso;omega)|(rw [B3 (by simpa using hc7)])|(rw [y3 hpo];unfold u6;(repeat (first|rw [if_pos (by omega)]|rw [if_neg (by omega)]));(try simp);done)
     ·refine .q 6 hG ⟨fun hc34 => ?_,fun hc34 => ?_⟩
      ·refine .q 4 hG ?_
       refine .h (.X9 underlying9 underlying86 underlying5 (.t a8) fun w39=>(.u0 hC .z (.as 39 a8 .z ?_)))
       refine .k hG (a1d _ (by omega)) ?_
       refine .ap (by omega) (by omega) fun w41 => ?_
       refine .q 3 hG ?_
       refine .u0 hC .z1 (.as 4 a8 .z1 ?_)
       refine .q 6 hG ?_
       refine .e2 a8 a8 a8 ?_
       first|(exfalso;omega)|(rw [B3 (by simpa using hc7)])|(rw [y3 hpo];unfold u6;(repeat (first|rw [if_pos (by omega)]|rw [if_neg (by omega)]));(try simp);done)
      ·refine .q 6 hG ⟨fun hc42 => ?_,fun hc42 => ?_⟩
       ·refine .q 4 hG ?_
        refine .k hG (F4 _ (by omega) (by omega)) ?_
        refine .ap (by omega) (by omega) fun w48 => ?_
        refine .q 3 hG ?_
        refine .u0 hC .z (.as 4 a8 .z ?_)
        refine .q 6 hG ?_
        refine .e2 a8 a8 a8 ?_
        first|(exfalso;omega)|(rw [B3 (by simpa using hc7)])|(rw [y3 hpo];unfold u6;(repeat (first|rw [if_pos (by omega)]|rw [if_neg (by omega)]));(try simp);done)
       ·refine .q 2 hG ?_
        refine .u0 hC .z (.as 4 a8 .z ?_)
        refine .q 6 hG ?_
        refine .e2 a8 a8 a8 ?_
        first|(exfalso;omega)|(rw [B3 (by simpa using hc7)])|(rw [y3 hpo];unfold u6;(repeat (first|rw [if_pos (by omega)]|rw [if_neg (by omega)]));(try simp);done)
    ·refine .q 5 hG ⟨fun hc22 => ?_,fun hc22 => ?_⟩
     ·refine .E0 [j0,j1] (by kernel_rfl) 10 [[],[],[(26,1)],[(27,2)],[(25,0),(28,3)],[],[(30,5)],[(31,6)],[(29,4),(32,7)],[(33,8)]] [0,4,8,9] a8 (by kernel_rfl) a8 (by kernel_rfl) (by decide) (.inl ?_)
      refine⟨_,fun H=>j6.A9 j4.l2 (fun x=>x.M7) M4 a8 (fun _=>a8) (.t a8) a8,?_⟩
      refine⟨_,fun H=>j6.G9 R3 (.t a8) a8,?_⟩
      refine⟨_,fun H=>j6.o9 hG (F4 _ (by omega) (by omega)) (.cons (.t a8) .nil) a8,?_⟩
      refine .inl ?_
      refine⟨_,fun H=>j6.A9 j4.l3 (fun x=>x.To) M5 a8 (fun _=>a8) (.t a8) a8,?_⟩
      refine⟨_,fun H=>j6.G9 R3 (.t a8) a8,?_⟩
      refine⟨_,fun H=>j6.o9 hG (F4 _ (by omega) (by omega)) (.cons (.t a8) .nil) a8,?_⟩
      refine .inl (.inl ?_)
      refine⟨⟨([],j2 [_,c8]),a8⟩,?_⟩
      refine A6.ofP (j6.move (.t rfl) ?_)
      refine⟨⟨([],j2 [_,c8]),a8⟩,?_⟩
      refine A6.append P4 (.inl ⟨_,underlying86⟩) rfl .z (.v (.t rfl)) (by omega) (by omega) (fun w29 => ?_) rfl
      refine⟨⟨([],j2 [_,c8]),a8⟩,?_⟩
      refine A6.append P4 (.inl ⟨_,underlying86⟩) rfl .z (.v (.t rfl)) (by omega) (by omega) (fun w33 => ?_) rfl
      refine⟨⟨([],j2 [_,c8]),a8⟩,?_⟩
      refine A6.ofP (j6.assign (.t rfl) ?_)
      refine⟨⟨([],j2 [_,c8]),a8⟩,?_⟩
      show D6 _ _ _ _ _ [] ((4,_)::(33,_)::(32,_)::(31,_)::(30,_)::(29,_)::(28,_)::(27,_)::(26,_)::(25,_)::_) _
      refine .q 2 hG ?_
      refine .u0 hC .z (.as 4 a8 .z ?_)
      refine .q 6 hG ?_
      refine .e2 a8 a8 a8 ?_
      first|(exfalso;omega)|(rw [B3 (by simpa using hc7)])|(rw [y3 hpo];unfold u6;(repeat (first|rw [if_pos (by omega)]|rw [if_neg (by omega)]));(try simp);done)
     ·refine .q 6 hG ⟨fun hc34 => ?_,fun hc34 => ?_⟩
      ·refine .q 4 hG ?_
       refine .h (.X9 underlying9 underlying86 underlying5 (.t a8) fun w39=>(.u0 hC .z (.as 39 a8 .z ?_)))
       refine .k hG (a1d _ (by omega)) ?_
       refine .ap (by omega) (by omega) fun w41 => ?_
       refine .q 3 hG ?_
       refine .u0 hC .z1 (.as 4 a8 .z1 ?_)
       refine .q 6 hG ?_
       refine .e2 a8 a8 a8 ?_
       first|(exfalso;omega)|(rw [B3 (by simpa using hc7)])|(rw [y3 hpo];unfold u6;(repeat (first|rw [if_pos (by omega)]|rw [if_neg (by omega)]));(try simp);done)
      ·refine .q 6 hG ⟨fun hc42 => ?_,fun hc42 => ?_⟩
       ·refine .q 4 hG ?_
        refine .k hG (F4 _ (by omega) (by omega)) ?_
        refine .ap (by omega) (by omega) fun w48 => ?_
        refine .q 3 hG ?_
        refine .u0 hC .z (.as 4 a8 .z ?_)
        refine .q 6 hG ?_
        refine .e2 a8 a8 a8 ?_
        first|(exfalso;omega)|(rw [B3 (by simpa using hc7)])|(rw [y3 hpo];unfold u6;(repeat (first|rw [if_pos (by omega)]|rw [if_neg (by omega)]));(try simp);done)
       ·refine .q 2 hG ?_
        refine .u0 hC .z (.as 4 a8 .z ?_)
        refine .q 6 hG ?_
        refine .e2 a8 a8 a8 ?_
        first|(exfalso;omega)|(rw [B3 (by simpa using hc7)])|(rw [y3 hpo];unfold u6;(repeat (first|rw [if_pos (by omega)]|rw [if_neg (by omega)]));(try simp);done)
  ·refine .q 6 hG ⟨fun hc13 => ?_,fun hc13 => ?_⟩
   ·refine .q 2 hG ⟨fun hc13 => ?_,fun hc13 => ?_⟩
    ·refine .q 4 hG ?_
     refine .k hG ((a2I _).b0C) ?_
     refine .ap (by omega) (by omega) fun w21 => ?_
     refine .q 3 hG ?_
     refine .u0 hC .z (.as 4 a8 .z ?_)
     refine .q 6 hG ?_
     refine .e2 a8 a8 a8 ?_
     first|(exfalso;omega)|(rw [B3 (by simpa using hc7)])|(rw [y3 hpo];unfold u6;(repeat (first|rw [if_pos (by omega)]|rw [if_neg (by omega)]));(try simp);done)
    ·refine .q 7 hG ⟨fun hc22 => ?_,fun hc22 => ?_⟩
     ·refine .q 2 hG ⟨fun hc22 => ?_,fun hc22 => ?_⟩
      ·refine .E0 [j0,j1] (by kernel_rfl) 10 [[],[],[(26,1)],[(27,2)],[(25,0),(28,3)],[],[(30,5)],[(31,6)],[(29,4),(32,7)],[(33,8)]] [0,4,8,9] a8 (by kernel_rfl) a8 (by kernel_rfl) (by decide) (.inl ?_)
       refine⟨_,fun H=>j6.A9 j4.l2 (fun x=>x.M7) M4 a8 (fun _=>a8) (.t a8) a8,?_⟩
       refine⟨_,fun H=>j6.G9 R3 (.t a8) a8,?_⟩
       refine⟨_,fun H=>j6.o9 hG (F4 _ (by omega) (by omega)) (.cons (.t a8) .nil) a8,?_⟩
       refine .inl ?_
       refine⟨_,fun H=>j6.A9 j4.l3 (fun x=>x.To) M5 a8 (fun _=>a8) (.t a8) a8,?_⟩
       refine⟨_,fun H=>j6.G9 R3 (.t a8) a8,?_⟩
       refine⟨_,fun H=>j6.o9 hG (F4 _ (by omega) (by omega)) (.cons (.t a8) .nil) a8,?_⟩
       refine .inl (.inl ?_)
       refine⟨⟨([],j2 [_,c8]),a8⟩,?_⟩
       refine A6.ofP (j6.move (.t rfl) ?_)
       refine⟨⟨([],j2 [_,c8]),a8⟩,?_⟩
       refine A6.append P4 (.inl ⟨_,underlying86⟩) rfl .z (.v (.t rfl)) (by omega) (by omega) (fun w29 => ?_) rfl
       refine⟨⟨([],j2 [_,c8]),a8⟩,?_⟩
       refine A6.append P4 (.inl ⟨_,underlying86⟩) rfl .z (.v (.t rfl)) (by omega) (by omega) (fun w33 => ?_) rfl
       refine⟨⟨([],j2 [_,c8]),a8⟩,?_⟩
       refine A6.ofP (j6.assign (.t rfl) ?_)
       refine⟨⟨([],j2 [_,c8]),a8⟩,?_⟩
       show D6 _ _ _ _ _ [] ((4,_)::(33,_)::(32,_)::(31,_)::(30,_)::(29,_)::(28,_)::(27,_)::(26,_)::(25,_)::_) _
       refine .q 2 hG ?_
       refine .u0 hC .z (.as 4 a8 .z ?_)
       refine .q 6 hG ?_
       refine .e2 a8 a8 a8 ?_
       first|(exfalso;omega)|(rw [B3 (by simpa using hc7)])|(rw [y3 hpo];unfold u6;(repeat (first|rw [if_pos (by omega)]|rw [if_neg (by omega)]));(try simp);done)
      ·refine .q 6 hG ⟨fun hc34 => ?_,fun hc34 => ?_⟩
       ·refine .q 4 hG ?_
        refine .h (.X9 underlying9 underlying86 underlying5 (.t a8) fun w39=>(.u0 hC .z (.as 39 a8 .z ?_)))
        refine .k hG (a1d _ (by omega)) ?_
        refine .ap (by omega) (by omega) fun w41 => ?_
        refine .q 3 hG ?_
        refine .u0 hC .z1 (.as 4 a8 .z1 ?_)
        refine .q 6 hG ?_
        refine .e2 a8 a8 a8 ?_
        first|(exfalso;omega)|(rw [B3 (by simpa using hc7)])|(rw [y3 hpo];unfold u6;(repeat (first|rw [if_pos (by omega)]|rw [if_neg (by omega)]));(try simp);done)
       ·refine .q 6 hG ⟨fun hc42 => ?_,fun hc42 => ?_⟩
        ·refine .q 4 hG ?_
         refine .k hG (F4 _ (by omega) (by omega)) ?_
         refine .ap (by omega) (by omega) fun w48 => ?_
         refine .q 3 hG ?_
         refine .u0 hC .z (.as 4 a8 .z ?_)
         refine .q 6 hG ?_
         refine .e2 a8 a8 a8 ?_
         first|(exfalso;omega)|(rw [B3 (by simpa using hc7)])|(rw [y3 hpo];unfold u6;(repeat (first|rw [if_pos (by omega)]|rw [if_neg (by omega)]));(try simp);done)
        ·refine .q 2 hG ?_
         refine .u0 hC .z (.as 4 a8 .z ?_)
         refine .q 6 hG ?_
         refine .e2 a8 a8 a8 ?_
         first|(exfalso;omega)|(rw [B3 (by simpa using hc7)])|(rw [y3 hpo];unfold u6;(repeat (first|rw [if_pos (by omega)]|rw [if_neg (by omega)]));(try simp);done)
     ·refine .q 5 hG ⟨fun hc22 => ?_,fun hc22 => ?_⟩
      ·refine .E0 [j0,j1] (by kernel_rfl) 10 [[],[],[(26,1)],[(27,2)],[(25,0),(28,3)],[],[(30,5)],[(31,6)],[(29,4),(32,7)],[(33,8)]] [0,4,8,9] a8 (by kernel_rfl) a8 (by kernel_rfl) (by decide) (.inl ?_)
       refine⟨_,fun H=>j6.A9 j4.l2 (fun x=>x.M7) M4 a8 (fun _=>a8) (.t a8) a8,?_⟩
       refine⟨_,fun H=>j6.G9 R3 (.t a8) a8,?_⟩
       refine⟨_,fun H=>j6.o9 hG (F4 _ (by omega) (by omega)) (.cons (.t a8) .nil) a8,?_⟩
       refine .inl ?_
       refine⟨_,fun H=>j6.A9 j4.l3 (fun x=>x.To) M5 a8 (fun _=>a8) (.t a8) a8,?_⟩
       refine⟨_,fun H=>j6.G9 R3 (.t a8) a8,?_⟩
       refine⟨_,fun H=>j6.o9 hG (F4 _ (by omega) (by omega)) (.cons (.t a8) .nil) a8,?_⟩
       refine .inl (.inl ?_)
       refine⟨⟨([],j2 [_,c8]),a8⟩,?_⟩
       refine A6.ofP (j6.move (.t rfl) ?_)
       refine⟨⟨([],j2 [_,c8]),a8⟩,?_⟩
       refine A6.append P4 (.inl ⟨_,underlying86⟩) rfl .z (.v (.t rfl)) (by omega) (by omega) (fun w29 => ?_) rfl
       refine⟨⟨([],j2 [_,c8]),a8⟩,?_⟩
       refine A6.append P4 (.inl ⟨_,underlying86⟩) rfl .z (.v (.t rfl)) (by omega) (by omega) (fun w33 => ?_) rfl
       refine⟨⟨([],j2 [_,c8]),a8⟩,?_⟩
       refine A6.ofP (j6.assign (.t rfl) ?_)
       refine⟨⟨([],j2 [_,c8]),a8⟩,?_⟩
       show D6 _ _ _ _ _ [] ((4,_)::(33,_)::(32,_)::(31,_)::(30,_)::(29,_)::(28,_)::(27,_)::(26,_)::(25,_)::_) _
       refine .q 2 hG ?_
       refine .u0 hC .z (.as 4 a8 .z ?_)
       refine .q 6 hG ?_
       refine .e2 a8 a8 a8 ?_
       first|(exfalso;omega)|(rw [B3 (by simpa using hc7)])|(rw [y3 hpo];unfold u6;(repeat (first|rw [if_pos (by omega)]|rw [if_neg (by omega)]));(try simp);done)
      ·refine .q 6 hG ⟨fun hc34 => ?_,fun hc34 => ?_⟩
       ·refine .q 4 hG ?_
        refine .h (.X9 underlying9 underlying86 underlying5 (.t a8) fun w39=>(.u0 hC .z (.as 39 a8 .z ?_)))
        refine .k hG (a1d _ (by omega)) ?_
        refine .ap (by omega) (by omega) fun w41 => ?_
        refine .q 3 hG ?_
        refine .u0 hC .z1 (.as 4 a8 .z1 ?_)
        refine .q 6 hG ?_
        refine .e2 a8 a8 a8 ?_
        first|(exfalso;omega)|(rw [B3 (by simpa using hc7)])|(rw [y3 hpo];unfold u6;(repeat (first|rw [if_pos (by omega)]|rw [if_neg (by omega)]));(try simp);done)
       ·refine .q 6 hG ⟨fun hc42 => ?_,fun hc42 => ?_⟩
        ·refine .q 4 hG ?_
         refine .k hG (F4 _ (by omega) (by omega)) ?_
         refine .ap (by omega) (by omega) fun w48 => ?_
         refine .q 3 hG ?_
         refine .u0 hC .z (.as 4 a8 .z ?_)
         refine .q 6 hG ?_
         refine .e2 a8 a8 a8 ?_
         first|(exfalso;omega)|(rw [B3 (by simpa using hc7)])|(rw [y3 hpo];unfold u6;(repeat (first|rw [if_pos (by omega)]|rw [if_neg (by omega)]));(try simp);done)
        ·refine .q 2 hG ?_
         refine .u0 hC .z (.as 4 a8 .z ?_)
         refine .q 6 hG ?_
         refine .e2 a8 a8 a8 ?_
         first|(exfalso;omega)|(rw [B3 (by simpa using hc7)])|(rw [y3 hpo];unfold u6;(repeat (first|rw [if_pos (by omega)]|rw [if_neg (by omega)]));(try simp);done)
   ·refine .q 5 hG ⟨fun hc13 => ?_,fun hc13 => ?_⟩
    ·refine .q 4 hG ?_
     refine .k hG ((a2I _).b0C) ?_
     refine .ap (by omega) (by omega) fun w21 => ?_
     refine .q 3 hG ?_
     refine .u0 hC .z (.as 4 a8 .z ?_)
     refine .q 6 hG ?_
     refine .e2 a8 a8 a8 ?_
     first|(exfalso;omega)|(rw [B3 (by simpa using hc7)])|(rw [y3 hpo];unfold u6;(repeat (first|rw [if_pos (by omega)]|rw [if_neg (by omega)]));(try simp);done)
    ·refine .q 7 hG ⟨fun hc22 => ?_,fun hc22 => ?_⟩
     ·refine .q 2 hG ⟨fun hc22 => ?_,fun hc22 => ?_⟩
      ·refine .E0 [j0,j1] (by kernel_rfl) 10 [[],[],[(26,1)],[(27,2)],[(25,0),(28,3)],[],[(30,5)],[(31,6)],[(29,4),(32,7)],[(33,8)]] [0,4,8,9] a8 (by kernel_rfl) a8 (by kernel_rfl) (by decide) (.inl ?_)
       refine⟨_,fun H=>j6.A9 j4.l2 (fun x=>x.M7) M4 a8 (fun _=>a8) (.t a8) a8,?_⟩
       refine⟨_,fun H=>j6.G9 R3 (.t a8) a8,?_⟩
       refine⟨_,fun H=>j6.o9 hG (F4 _ (by omega) (by omega)) (.cons (.t a8) .nil) a8,?_⟩
       refine .inl ?_
       refine⟨_,fun H=>j6.A9 j4.l3 (fun x=>x.To) M5 a8 (fun _=>a8) (.t a8) a8,?_⟩
       refine⟨_,fun H=>j6.G9 R3 (.t a8) a8,?_⟩
       refine⟨_,fun H=>j6.o9 hG (F4 _ (by omega) (by omega)) (.cons (.t a8) .nil) a8,?_⟩
       refine .inl (.inl ?_)
       refine⟨⟨([],j2 [_,c8]),a8⟩,?_⟩
       refine A6.ofP (j6.move (.t rfl) ?_)
       refine⟨⟨([],j2 [_,c8]),a8⟩,?_⟩
       refine A6.append P4 (.inl ⟨_,underlying86⟩) rfl .z (.v (.t rfl)) (by omega) (by omega) (fun w29 => ?_) rfl
       refine⟨⟨([],j2 [_,c8]),a8⟩,?_⟩
       refine A6.append P4 (.inl ⟨_,underlying86⟩) rfl .z (.v (.t rfl)) (by simp<;>omega) (by simp<;>omega) (fun w33 => ?_) rfl
       refine⟨⟨([],j2 [_,c8]),a8⟩,?_⟩
       refine A6.ofP (j6.assign (.t rfl) ?_)
       refine⟨⟨([],j2 [_,c8]),a8⟩,?_⟩
       show D6 _ _ _ _ _ [] ((4,_)::(33,_)::(32,_)::(31,_)::(30,_)::(29,_)::(28,_)::(27,_)::(26,_)::(25,_)::_) _
       refine .q 2 hG ?_
       refine .u0 hC .z (.as 4 a8 .z ?_)
       refine .q 6 hG ?_
       refine .e2 a8 a8 a8 ?_
       first|(exfalso;omega)|(rw [B3 (by simpa using hc7)])|(rw [y3 hpo];unfold u6;(repeat (first|rw [if_pos (by omega)]|rw [if_neg (by omega)]));(try simp);done)
      ·refine .q 6 hG ⟨fun hc34 => ?_,fun hc34 => ?_⟩
       ·refine .q 4 hG ?_
        refine .h (.X9 underlying9 underlying86 underlying5 (.t a8) fun w39=>(.u0 hC .z (.as 39 a8 .z ?_)))
        refine .k hG (a1d _ (by omega)) ?_
        refine .ap (by omega) (by omega) fun w41 => ?_
        refine .q 3 hG ?_
        refine .u0 hC .z1 (.as 4 a8 .z1 ?_)
        refine .q 6 hG ?_
        refine .e2 a8 a8 a8 ?_
        first|(exfalso;omega)|(rw [B3 (by simpa using hc7)])|(rw [y3 hpo];unfold u6;(repeat (first|rw [if_pos (by omega)]|rw [if_neg (by omega)]));(try simp);done)
       ·refine .q 6 hG ⟨fun hc42 => ?_,fun hc42 => ?_⟩
        ·refine .q 4 hG ?_
         refine .k hG (F4 _ (by omega) (by omega)) ?_
         refine .ap (by omega) (by omega) fun w48 => ?_
         refine .q 3 hG ?_
         refine .u0 hC .z (.as 4 a8 .z ?_)
         refine .q 6 hG ?_
         refine .e2 a8 a8 a8 ?_
         first|(exfalso;omega)|(rw [B3 (by simpa using hc7)])|(rw [y3 hpo];unfold u6;(repeat (first|rw [if_pos (by omega)]|rw [if_neg (by omega)]));(try simp);done)
        ·refine .q 2 hG ?_
         refine .u0 hC .z (.as 4 a8 .z ?_)
         refine .q 6 hG ?_
         refine .e2 a8 a8 a8 ?_
         first|(exfalso;omega)|(rw [B3 (by simpa using hc7)])|(rw [y3 hpo];unfold u6;(repeat (first|rw [if_pos (by omega)]|rw [if_neg (by omega)]));(try simp);done)
     ·refine .q 5 hG ⟨fun hc22 => ?_,fun hc22 => ?_⟩
      ·refine .E0 [j0,j1] (by kernel_rfl) 10 [[],[],[(26,1)],[(27,2)],[(25,0),(28,3)],[],[(30,5)],[(31,6)],[(29,4),(32,7)],[(33,8)]] [0,4,8,9] a8 (by kernel_rfl) a8 (by kernel_rfl) (by decide) (.inl ?_)
       refine⟨_,fun H=>j6.A9 j4.l2 (fun x=>x.M7) M4 a8 (fun _=>a8) (.t a8) a8,?_⟩
       refine⟨_,fun H=>j6.G9 R3 (.t a8) a8,?_⟩
       refine⟨_,fun H=>j6.o9 hG (F4 _ (by omega) (by omega)) (.cons (.t a8) .nil) a8,?_⟩
       refine .inl ?_
       refine⟨_,fun H=>j6.A9 j4.l3 (fun x=>x.To) M5 a8 (fun _=>a8) (.t a8) a8,?_⟩
       refine⟨_,fun H=>j6.G9 R3 (.t a8) a8,?_⟩
       refine⟨_,fun H=>j6.o9 hG (F4 _ (by omega) (by omega)) (.cons (.t a8) .nil) a8,?_⟩
       refine .inl (.inl ?_)
       refine⟨⟨([],j2 [_,c8]),a8⟩,?_⟩
       refine A6.ofP (j6.move (.t rfl) ?_)
       refine⟨⟨([],j2 [_,c8]),a8⟩,?_⟩
       refine A6.append P4 (.inl ⟨_,underlying86⟩) rfl .z (.v (.t rfl)) (by omega) (by omega) (fun w29 => ?_) rfl
       refine⟨⟨([],j2 [_,c8]),a8⟩,?_⟩
       refine A6.append P4 (.inl ⟨_,underlying86⟩) rfl .z (.v (.t rfl)) (by simp<;>omega) (by simp<;>omega) (fun w33 => ?_) rfl
       refine⟨⟨([],j2 [_,c8]),a8⟩,?_⟩
       refine A6.ofP (j6.assign (.t rfl) ?_)
       refine⟨⟨([],j2 [_,c8]),a8⟩,?_⟩
       show D6 _ _ _ _ _ [] ((4,_)::(33,_)::(32,_)::(31,_)::(30,_)::(29,_)::(28,_)::(27,_)::(26,_)::(25,_)::_) _
       refine .q 2 hG ?_
       refine .u0 hC .z (.as 4 a8 .z ?_)
       refine .q 6 hG ?_
       refine .e2 a8 a8 a8 ?_
       first|(exfalso;omega)|(rw [B3 (by simpa using hc7)])|(rw [y3 hpo];unfold u6;(repeat (first|rw [if_pos (by omega)]|rw [if_neg (by omega)]));(try simp);done)
      ·refine .q 6 hG ⟨fun hc34 => ?_,fun hc34 => ?_⟩
       ·refine .q 4 hG ?_
        refine .h (.X9 underlying9 underlying86 underlying5 (.t a8) fun w39=>(.u0 hC .z (.as 39 a8 .z ?_)))
        refine .k hG (a1d _ (by omega)) ?_
        refine .ap (by simp<;>omega) (by simp<;>omega) fun w41 => ?_
        refine .q 3 hG ?_
        refine .u0 hC .z1 (.as 4 a8 .z1 ?_)
        refine .q 6 hG ?_
        refine .e2 a8 a8 a8 ?_
        first|(exfalso;omega)|(rw [B3 (by simpa using hc7)])|(rw [y3 hpo];unfold u6;(repeat (first|rw [if_pos (by omega)]|rw [if_neg (by omega)]));(try simp);done)
       ·refine .q 6 hG ⟨fun hc42 => ?_,fun hc42 => ?_⟩
        ·refine .q 4 hG ?_
         refine .k hG (F4 _ (by omega) (by omega)) ?_
         refine .ap (by omega) (by omega) fun w48 => ?_
         refine .q 3 hG ?_
         refine .u0 hC .z (.as 4 a8 .z ?_)
         refine .q 6 hG ?_
         refine .e2 a8 a8 a8 ?_
         first|(exfalso;omega)|(rw [B3 (by simpa using hc7)])|(rw [y3 hpo];unfold u6;(repeat (first|rw [if_pos (by omega)]|rw [if_neg (by omega)]));(try simp);done)
        ·refine .q 2 hG ?_
         refine .u0 hC .z (.as 4 a8 .z ?_)
         refine .q 6 hG ?_
         refine .e2 a8 a8 a8 ?_
         first|(exfalso;omega)|(rw [B3 (by simpa using hc7)])|(rw [y3 hpo];unfold u6;(repeat (first|rw [if_pos (by omega)]|rw [if_neg (by omega)]));(try simp);done)
def a3n (k:Tag) (b:List UInt8) (x:o5):Bool:=decide (x.Key=k)&&decide (x.Y0=b)
def a3I (k:Tag) (b:List UInt8):List UInt8:=a2i (a3H k ((b.take (b.length - 32)).take 8)) ((b.take (b.length - 32)).drop 8) ((b.take (b.length - 32)).drop 8).length
def C5 (a:D3) (k:Tag) (b:List UInt8):List UInt8×Int :=
 if a.I7 then match a.y2.find? (a3n k b) with
  | some x=>(x.Plain,0)
  | none=>([],14)
 else if b.length < 40∨296 < b.length then ([],14) else
 if (a0o k.l (a3k.l++b.take (b.length - 32))).l=b.drop (b.length - 32) then (a3I k b,0) else ([],14)
theorem a3o {a:D3} {k:Tag} {b:List UInt8} {x:o5} (hf:a.I7=true) (h:a.y2.find? (a3n k b)=some x):C5 a k b=(x.Plain,0):=by unfold C5;rw [if_pos hf,h]
theorem a6x {a:D3} {k:Tag} {b:List UInt8} (hf:a.I7=true) (h:a.y2.find? (a3n k b)=none):C5 a k b=([],14):=by unfold C5;rw [if_pos hf,h]
theorem a6y {a:D3} {k:Tag} {b:List UInt8} (hf:a.I7=false) (h:b.length < 40∨296 < b.length):C5 a k b=([],14):=by unfold C5;rw [if_neg (by rw [hf];decide),if_pos h]
theorem a7C {a:D3} {k:Tag} {b:List UInt8} (hf:a.I7=false) (h:¬(b.length < 40∨296 < b.length)) (h2:¬(a0o k.l (a3k.l++b.take (b.length - 32))).l=b.drop (b.length - 32)):C5 a k b=([],14):=by
 unfold C5;rw [if_neg (by rw [hf];decide),if_neg h,if_neg h2]
theorem a55 {a:D3} {k:Tag} {b:List UInt8} (hf:a.I7=false) (h:¬(b.length < 40∨296 < b.length)) (h2:(a0o k.l (a3k.l++b.take (b.length - 32))).l=b.drop (b.length - 32)):C5 a k b=(a3I k b,0):=by
 unfold C5;rw [if_neg (by rw [hf];decide),if_neg h,if_pos h2]
theorem b6w (a:D3) (k:Tag) (b:List UInt8) (hpl:∀ x∈a.y2,x.Plain.length≤1000000):u1 gl prog 98 [.v a,.v k,.v b] (fun r=>r = .t2 (.v (C5 a k b).1) (.v (C5 a k b).2)):=by
 refine u1.jn func98 (by kernel_rfl) 64 rfl fun C hC hG => ?_
 refine .q 3 hG fun b3 => ?_
 refine .q 1 hG fun b4 => ?_
 refine .q 5 hG ?_
 refine .A8 hC .z (.O5 4 a8 .z (.A8 hC .z1 (.O5 3 a8 .z1 ?_)))
 refine .q 4 hG ?_
 refine .cond (.t a8) (fun hc13 => ?_) (fun hc13 => ?_)
 ·refine .q 9 hG ?_
  refine .E3 (α:=Nat) [(2,_),(4,_),(15,_),(16,_)] (fun i R=>(17,.v (i:Int))::R) (Function.const _ _) (fun i=>i≤a.y2.length∧∀ j (hj:j < a.y2.length),j < i→a3n k b a.y2[j]=false) (fun i=>a.y2.length - i) (0) (.c2 a8 a8 (.c2 a8 a8 (.nil _))) ?_ (.c2 a8 a8 (.c2 a8 a8 (.cons a8 (.nil _)))) (a8) fun i hF => ?_
  ·simp
  obtain⟨h1,h2⟩:=hF
  refine .q 6 hG ⟨fun hc18 => ?_,fun hc18 => ?_⟩
  ·refine .q 5 hG ?_
   refine .ix (by omega) (by omega) ?_
   refine .q 2 hG fun b9 => ?_
   refine .q 7 hG ?_
   refine .p (.a7w underlying26 sz5 underlying5 b0d (.t a8) (.t a8) ?_)
   refine .q 4 hG ?_
   refine .go 25 a8 (.t a8) (fun hg29 => .o9 hG (a1c _ _) (.cons (.q a8 hg29) (.cons (.q a8 hg29) .nil)) a8) ?_
   refine .q 2 hG ?_
   refine .cond (.t a8) (fun hc30 => ?_) (fun hc30 => ?_)
   ·refine .q 1 hG ?_
    have hb6:=hpl _ (List.getElem_mem (l:=a.y2) (n:=(i:Int).toNat) (by omega))
    refine .q 3 hG ?_
    refine .k hG (b0H _ (by omega)) ?_
    refine .q 4 hG ?_
    refine .e2 a8 a8 a8 ?_
    rw [a3o hc13 (a5Y (k:=i) (by omega) hc30 h2)];rfl
   ·refine .q 1 hG ?_
    refine .drop (.S0 15 a8 fun hl15 => ?_)
    refine .q 1 hG ?_
    refine .ad (by omega) (by omega) ?_
    refine .q 2 hG ?_
    refine⟨i+1,.c2 rfl rfl (.c2 rfl rfl (.cons rfl (.nil _))),rfl,?_,by omega⟩
    refine⟨by omega,fun j hj hji => ?_⟩;rcases Nat.lt_or_ge j i with h|h;exact h2 j hj h;(obtain rfl:j=i:=by omega);exact hc30
  ·refine .q 7 hG ?_
   refine .e2 a8 a8 a8 ?_
   rw [a6x hc13 (a2J fun j hj=>h2 j hj (by omega))]
 ·refine .q 13 hG ?_
  refine .cond (.t a8) (fun hc42 => ?_) (fun hc42 => ?_)
  ·refine .q 6 hG ?_
   refine .e2 a8 a8 a8 ?_
   rw [a6y hc13 (by simp at hc42;omega)]
  ·refine .q 6 hG ?_
   refine .sb (by omega) (by simp at * <;> omega) (.p (.b6g ty5 underlying86 (.t a8) (.t a8) (by simp at * <;> omega) (by omega) ?_))
   refine .q 6 hG ?_
   refine .p (.o9 hG (b3V _ _ (by simp at * <;> omega)) (.cons (.t a8) (.cons (.t a8) .nil)) ?_)
   refine .q 1 hG fun b11 => ?_
   refine .q 4 hG ?_
   refine .A8 hC .z (.O5 11 a8 .z (.draw (by kernel_rfl) 7 [[],[],[],[(53,2)],[(52,1),(54,3)],[(51,0),(55,4)],[(56,5)]] a8 (by kernel_rfl) a8 ?_))
   refine⟨_,j6.P0 (by decide) O1 (.t a8) a8,?_⟩
   refine⟨_,j6.move (.t a8) a8,?_⟩
   refine⟨_,j6.move (.t a8) a8,?_⟩
   refine⟨_,j6.len underlying86 (.t a8) a8,?_⟩
   refine⟨_,j6.b7K ty5 underlying86 (.t a8) (.t a8) (by omega) (by simp<;>omega) a8,?_⟩
   refine⟨_,j6.o9 hG (c0d _ _) (.cons (.t a8) (.cons (.t a8) .nil)) a8,?_⟩
   refine⟨_,j6.not (.t a8) a8,?_⟩
   show D6 _ _ _ _ _ [] ((57,_)::(56,_)::(55,_)::(54,_)::(53,_)::(52,_)::(51,_)::_) _
   refine .q 1 hG ?_
   refine .cond (.t a8) (fun hc57 => ?_) (fun hc57 => ?_)
   ·refine .q 6 hG ?_
    refine .e2 a8 a8 a8 ?_
    have e1:((b.length:Int) - 32).toNat=b.length - 32:=by omega
    have e2:(List.take (b.length - 32) b).length=b.length - 32:=by simp
    rw [e1,Int.toNat_natCast,e2] at hc57
    rw [a7C hc13 (by simp at hc42;omega) (by simpa using hc57)]
   ·refine .q 2 hG ?_
    refine .draw (by kernel_rfl) 8 [[],[],[(59,1)],[],[(61,3)],[(58,0),(60,2),(62,4)],[(63,5)],[]] a8 (by kernel_rfl) a8 ?_
    refine⟨_,j6.G9 A5 (.t a8) a8,?_⟩
    refine⟨_,j6.move (.t a8) a8,?_⟩
    refine⟨_,j6.b6g ty5 underlying86 (.t a8) (.i a8) (by omega) (by simp at * <;> omega) a8,?_⟩
    refine⟨_,j6.move (.t a8) a8,?_⟩
    refine⟨_,j6.b7K ty5 underlying86 (.t a8) (.i a8) (by omega) (by simp at * <;> omega) a8,?_⟩
    refine⟨_,j6.o9 hG ((c0i _ _ _ (by simp<;>omega) (by simp at * <;> omega)).b0C) (.cons (.t a8) (.cons (.t a8) (.cons (.t a8) .nil))) a8,?_⟩
    refine⟨_,j6.assign (.t a8) a8,?_⟩
    refine⟨_,j6.assign (.i a8) a8,?_⟩
    show D6 _ _ _ _ _ [] ((7,_)::(6,_)::(63,_)::(62,_)::(61,_)::(60,_)::(59,_)::(58,_)::_) _
    refine .q 2 hG ?_
    refine .e2 a8 a8 a8 ?_
    have e1:((b.length:Int) - 32).toNat=b.length - 32:=by omega
    have e2:(List.take (b.length - 32) b).length=b.length - 32:=by simp
    rw [e1,Int.toNat_natCast,e2] at hc57
    rw [a55 hc13 (by simp at hc42;omega) (by simpa using hc57),e1];rfl
def a6z (b:List UInt8):Nat→UInt64
 | 0=>0
 | i+1=>256*a6z b i+(b.getD i 0).toUInt64
theorem b4c (b:List UInt8) (j:Nat) (h:(j:Int).toNat < b.length):256*a6z b j+(b[(j:Int).toNat]'h).toUInt64=a6z b (j+1):=by
 have e:b.getD j 0=b[(j:Int).toNat]'h:=by
  rw [List.getD_eq_getElem?_getD,List.getElem?_eq_getElem (by omega)];rfl
 rw [a6z,e]
theorem c3t (n:UInt64) (k:Nat) (hk:k < 64):(n >>> UInt64.ofNat k).toUInt8.toNat=n.toNat/2^k % 256:=by
 rw [UInt64.toNat_toUInt8,UInt64.toNat_shiftRight,UInt64.toNat_ofNat_of_lt' (by have:UInt64.size=18446744073709551616:=rfl;omega),Nat.mod_eq_of_lt hk,Nat.shiftRight_eq_div_pow]
theorem b4d (b:List UInt8) (h:8≤b.length):R9 (a6z b 8) 8=b.take 8:=by
 obtain⟨c0,c1,c2,c3,c4,c5,c6,c7,r,rfl⟩:∃ c0 c1 c2 c3 c4 c5 c6 c7 r,b=c0::c1::c2::c3::c4::c5::c6::c7::r:=by
  match b,h with
  | c0::c1::c2::c3::c4::c5::c6::c7::r,_=>exact⟨_,_,_,_,_,_,_,_,_,rfl⟩
 have l0:=c0.toNat_lt;have l1:=c1.toNat_lt;have l2:=c2.toNat_lt;have l3:=c3.toNat_lt
 have l4:=c4.toNat_lt;have l5:=c5.toNat_lt;have l6:=c6.toNat_lt;have l7:=c7.toNat_lt
 have hN:(a6z (c0::c1::c2::c3::c4::c5::c6::c7::r) 8).toNat=256*(256*(256*(256*(256*(256*(256*c0.toNat+c1.toNat)+c2.toNat)+c3.toNat)+c4.toNat)+c5.toNat)+c6.toNat)+c7.toNat:=by
  simp only [a6z,UInt64.toNat_add,UInt64.toNat_mul,List.getD_cons_zero,List.getD_cons_succ,UInt8.toNat_toUInt64,UInt64.toNat_ofNat]
  omega
 generalize a6z (c0::c1::c2::c3::c4::c5::c6::c7::r) 8=n at hN
 have key:∀ (k:Nat) (c:UInt8),k < 64→n.toNat/2^k % 256=c.toNat→(n >>> UInt64.ofNat k).toUInt8=c:=fun k c hk h=>UInt8.toNat_inj.1 ((c3t n k hk).trans h)
 have e:R9 n 8 = [(n >>> UInt64.ofNat (56 - 8*0)).toUInt8,(n >>> UInt64.ofNat (56 - 8*1)).toUInt8,(n >>> UInt64.ofNat (56 - 8*2)).toUInt8,(n >>> UInt64.ofNat (56 - 8*3)).toUInt8,(n >>> UInt64.ofNat (56 - 8*4)).toUInt8,(n >>> UInt64.ofNat (56 - 8*5)).toUInt8,(n >>> UInt64.ofNat (56 - 8*6)).toUInt8,(n >>> UInt64.ofNat (56 - 8*7)).toUInt8]:=rfl
 rw [e]
 simp only [List.take_succ_cons,List.take_zero]
 rw [key (56 - 8*0) c0 (by omega) (by simp<;>omega),key (56 - 8*1) c1 (by omega) (by simp<;>omega),key (56 - 8*2) c2 (by omega) (by simp<;>omega),key (56 - 8*3) c3 (by omega) (by simp<;>omega),
  key (56 - 8*4) c4 (by omega) (by simp<;>omega),key (56 - 8*5) c5 (by omega) (by simp<;>omega),key (56 - 8*6) c6 (by omega) (by simp<;>omega),key (56 - 8*7) c7 (by omega) (by simp<;>omega)]
theorem c0j (a:D3) (k:Tag) (b:List UInt8) (hpl:∀ x∈a.y2,x.Plain.length≤1000000):u1 gl prog 112 [.v a,.v k,.v b] (fun r=>r = .t2 (.v (C5 a k b).1) (.v (C5 a k b).2)):=by
 refine u1.jn func112 (by kernel_rfl) 89 rfl fun C hC hG => ?_
 refine .q 3 hG fun b3 => ?_
 refine .q 1 hG fun b4 => ?_
 refine .q 5 hG ?_
 refine .A8 hC .z (.O5 4 a8 .z (.A8 hC .z1 (.O5 3 a8 .z1 ?_)))
 refine .q 4 hG ?_
 refine .cond (.t a8) (fun hc14 => ?_) (fun hc14 => ?_)
 ·refine .q 6 hG ?_
  refine .E3 (α:=Nat) [(2,_),(3,_),(4,_)] (fun i R=>(8,.v (i:Int))::R) (Function.const _ _) (fun i=>i≤a.y2.length∧∀ j (hj:j < a.y2.length),j < i→a3n k b a.y2[j]=false) (fun i=>a.y2.length - i) (0) (.c2 a8 a8 (.cons a8 (.nil _))) ?_ (.c2 a8 a8 (.c2 a8 a8 (.nil _))) (a8) fun i hF => ?_
  ·simp
  obtain⟨h1,h2⟩:=hF
  refine .q 10 hG ⟨fun hc19 => ?_,fun hc19 => ?_⟩
  ·refine .q 4 hG ?_
   refine .draw (by kernel_rfl) 18 [[],[(22,0)],[],[(23,1),(24,2)],[(25,3)],[(26,4)],[],[(27,5),(28,6)],[(29,7)],[],[(31,9)],[],[(32,10),(33,11)],[(34,12)],[(35,13)],[],[(36,14),(37,15)],[(30,8),(38,16)]] a8 (by kernel_rfl) a8 ?_
   refine⟨_,j6.A9 m0.l4 (fun x=>x.y2) a5N a8 (fun _=>a8) (.t a8) a8,?_⟩
   refine⟨_,j6.G9 b3N (.t a8) a8,?_⟩
   refine⟨_,j6.move (.t a8) a8,?_⟩
   refine⟨_,j6.idx a5z underlying36 (.t a8) (.t a8) (by omega) (by omega) a8,?_⟩
   refine⟨_,j6.A9 o5.l0 (fun x=>x.Key) b4T a8 (fun _=>a8) (.t a8) a8,?_⟩
   refine⟨_,j6.G9 A5 (.t a8) a8,?_⟩
   refine⟨_,j6.G9 A5 (.t a8) a8,?_⟩
   refine⟨_,j6.a7w underlying26 sz5 underlying5 b0d (.t a8) (.t a8) a8,?_⟩
   refine⟨_,j6.move (.t a8) a8,?_⟩
   refine⟨_,⟨_,_,a8,a8,fun hg31=>j6.A9 m0.l4 (fun x=>x.y2) a5N a8 (fun _=>a8) (.t a8) a8⟩,?_⟩
   refine⟨_,⟨_,_,a8,a8,fun hg32=>j6.G9 b3N (.q a8 hg32) a8⟩,?_⟩
   refine⟨_,⟨_,_,a8,a8,fun hg33=>j6.move (.t a8) a8⟩,?_⟩
   refine⟨_,⟨_,_,a8,a8,fun hg34=>j6.idx a5z underlying36 (.q a8 hg34) (.q a8 hg34) (by first|omega|(simp;omega)|(have:=hg34;simp at this;omega)) (by first|omega|(simp;omega)|(have:=hg34;simp at this;omega)) a8⟩,?_⟩
   refine⟨_,⟨_,_,a8,a8,fun hg35=>j6.A9 o5.l3 (fun x=>x.Y0) b0k a8 (fun _=>a8) (.q a8 hg35) a8⟩,?_⟩
   refine⟨_,⟨_,_,a8,a8,fun hg36=>j6.G9 a3E (.q a8 hg36) a8⟩,?_⟩
   refine⟨_,⟨_,_,a8,a8,fun hg37=>j6.move (.t a8) a8⟩,?_⟩
   refine⟨_,⟨_,_,a8,a8,fun hg38=>j6.o9 hG (a3Z _ _) (.cons (.q a8 hg38) (.cons (.q a8 hg38) .nil)) a8⟩,?_⟩
   refine⟨_,j6.T8 (.t a8) (fun hp=>(.q a8 hp)) a8,?_⟩
   show D6 _ _ _ _ _ [] ((39,_)::(38,_)::(37,_)::(36,_)::(35,_)::(34,_)::(33,_)::(32,_)::(31,_)::(30,_)::(29,_)::(28,_)::(27,_)::(26,_)::(25,_)::(24,_)::(23,_)::(22,_)::_) _
   refine .q 1 hG ?_
   refine .cond (.t a8) (fun hc39 => ?_) (fun hc39 => ?_)
   ·refine .q 1 hG ?_
    have hb6:=hpl _ (List.getElem_mem (l:=a.y2) (n:=(i:Int).toNat) (by omega))
    refine .q 1 hG ?_
    refine .h (.buildSlice (α:=UInt8) ty5 underlying86 .nil a8 (by decide) fun b40 => ?_)
    refine .q 3 hG ?_
    refine .ix (by omega) (by omega) ?_
    refine .q 2 hG ?_
    refine .ap (by simp at * <;> omega) (by simp at * <;> omega) fun w47 => ?_
    refine .q 3 hG ?_
    refine .u0 hC .z (.as 6 a8 .z ?_)
    refine .q 1 hG ?_
    refine .e2 a8 a8 a8 ?_
    rw [a3o hc14 (a5Y (k:=i) (by omega) hc39 h2)];rfl
   ·refine .q 1 hG ?_
    refine .S0 17 a8 fun hl17 => ?_
    refine .q 2 hG ?_
    refine .ad (by omega) (by omega) ?_
    refine .q 2 hG ?_
    refine⟨i+1,.c2 rfl rfl (.c2 rfl rfl (.nil _)),rfl,?_,by omega⟩
    refine⟨by omega,fun j hj hji => ?_⟩;rcases Nat.lt_or_ge j i with h|h;exact h2 j hj h;(obtain rfl:j=i:=by omega);exact hc39
  ·refine .q 7 hG ?_
   refine .e2 a8 a8 a8 ?_
   rw [a6x hc14 (a2J fun j hj=>h2 j hj (by omega))]
 ·refine .q 17 hG ?_
  refine .cond (.t a8) (fun hc55 => ?_) (fun hc55 => ?_)
  ·refine .q 6 hG ?_
   refine .e2 a8 a8 a8 ?_
   rw [a6y hc14 (by simp at hc55;omega)]
  ·refine .q 2 hG ?_
   refine .a7x (by kernel_rfl) 8 [[],[],[],[(58,2)],[(57,1),(59,3)],[(60,4)],[(56,0),(61,5)],[]] [7] a8 (by kernel_rfl) a8 (by kernel_rfl) (by decide) ?_
   refine⟨_,fun H=>j6.P0 (by decide) O1 (.t a8) a8,?_⟩
   refine⟨_,fun H=>j6.move (.t a8) a8,?_⟩
   refine⟨_,fun H=>j6.move (.t a8) a8,?_⟩
   refine⟨_,fun H=>j6.sub (.t a8) (.i a8) (by omega) (by simp at * <;> omega) a8,?_⟩
   refine⟨_,fun H=>j6.b6g ty5 underlying86 (.t a8) (.t a8) (by simp at * <;> omega) (by omega) a8,?_⟩
   refine⟨_,fun H=>j6.o9 hG (a4H _ _ (by simp) (by simp at * <;> omega)) (.cons (.s [98,111,120] (by decide) (by decide)) (.cons (.t a8) .nil)) a8,?_⟩
   refine⟨_,fun H=>j6.o9 hG (a5e _ _ (by simp) (by simp at * <;> omega)) (.cons (.t a8) (.cons (.t a8) .nil)) a8,?_⟩
   refine .inl ?_
   refine A6.alloc A5 fun b10 => ?_
   show D6 _ _ _ _ _ [_] ((10,_)::(62,_)::(61,_)::(60,_)::(59,_)::(58,_)::(57,_)::(56,_)::_) _
   refine .q 4 hG ?_
   refine .A8 hC .z (.O5 10 a8 .z (.draw (by kernel_rfl) 7 [[],[],[],[(65,2)],[(64,1),(66,3)],[(63,0),(67,4)],[(68,5)]] a8 (by kernel_rfl) a8 ?_))
   refine⟨_,j6.P0 (by decide) O1 (.t a8) a8,?_⟩
   refine⟨_,j6.move (.t a8) a8,?_⟩
   refine⟨_,j6.move (.t a8) a8,?_⟩
   refine⟨_,j6.sub (.t a8) (.i a8) (by omega) (by simp at * <;> omega) a8,?_⟩
   refine⟨_,j6.b7K ty5 underlying86 (.t a8) (.t a8) (by simp at * <;> omega) (by omega) a8,?_⟩
   refine⟨_,j6.o9 hG (a3Z _ _) (.cons (.t a8) (.cons (.t a8) .nil)) a8,?_⟩
   refine⟨_,j6.not (.t a8) a8,?_⟩
   show D6 _ _ _ _ _ [] ((69,_)::(68,_)::(67,_)::(66,_)::(65,_)::(64,_)::(63,_)::_) _
   refine .q 1 hG ?_
   refine .cond (.t a8) (fun hc69 => ?_) (fun hc69 => ?_)
   ·refine .q 6 hG ?_
    refine .e2 a8 a8 a8 ?_
    have e1:((b.length:Int) - 32).toNat=b.length - 32:=by omega
    rw [e1] at hc69
    have h9:(!decide ((a0o k.l (a3k.l++b.take (b.length - 32))).l=b.drop (b.length - 32)))=true:=hc69
    rw [a7C hc14 (by simp at hc55;omega) (by simpa using h9)]
   ·refine .q 11 hG ?_
    refine .E3 (α:=Nat) [(2,_),(4,_),(9,_)] (fun j R=>(11,.v (a6z b j))::(12,.v (j:Int))::R) (Function.const _ _) (fun j=>j≤8) (fun j=>8 - j) (0) (.c2 a8 a8 (.cons a8 (.nil _))) ?_ (.c2 a8 a8 (.c2 a8 a8 (.cons a8 (.nil _)))) (a8) fun j hF => ?_
    ·simp
    refine .q 7 hG ⟨fun hc71 => ?_,fun hc71 => ?_⟩
    ·refine .q 5 hG ?_
     refine .p (.b1u (.u64 256 a8) (.t a8) ?_)
     refine .q 2 hG ?_
     refine .ix (by omega) (by simp at * <;> omega) ?_
     refine .q 1 hG ?_
     refine .p (.a8j underlying5 underlying77 (.t a8) (.p (.b7k (.t a8) (.t a8) ?_)))
     refine .q 4 hG ?_
     refine .ad (by omega) (by omega) ?_
     refine .q 2 hG ?_
     refine⟨j+1,.cons (congrArg (fun q=>some (AV.v q)) (b4c b j _)) (.c2 rfl rfl (.c2 rfl rfl (.nil _))),rfl,?_,by omega⟩
     omega
    ·refine .q 2 hG ?_
     refine .draw (by kernel_rfl) 9 [[],[],[],[],[(85,3)],[(84,2),(86,4)],[(82,0),(83,1),(87,5)],[(88,6)],[]] a8 (by kernel_rfl) a8 ?_
     refine⟨_,j6.G9 A5 (.t a8) a8,?_⟩
     refine⟨_,j6.move (.t a8) a8,?_⟩
     refine⟨_,j6.move (.t a8) a8,?_⟩
     refine⟨_,j6.move (.t a8) a8,?_⟩
     refine⟨_,j6.sub (.t a8) (.i a8) (by omega) (by simp at * <;> omega) a8,?_⟩
     refine⟨_,j6.c2U ty5 underlying86 (.t a8) (.i a8) (.t a8) (by omega) (by simp at * <;> omega) (by omega) a8,?_⟩
     refine⟨_,j6.o9 hG (a9K _ _ _ (by simp at * <;> omega)) (.cons (.t a8) (.cons (.t a8) (.cons (.t a8) .nil))) a8,?_⟩
     refine⟨_,j6.assign (.t a8) a8,?_⟩
     refine⟨_,j6.assign (.i a8) a8,?_⟩
     show D6 _ _ _ _ _ [] ((7,_)::(6,_)::(88,_)::(87,_)::(86,_)::(85,_)::(84,_)::(83,_)::(82,_)::_) _
     refine .q 2 hG ?_
     refine .e2 a8 a8 a8 ?_
     obtain rfl:j=8:=by omega
     have e1:((b.length:Int) - 32).toNat=b.length - 32:=by omega
     rw [e1] at hc69
     have h9:(!decide ((a0o k.l (a3k.l++b.take (b.length - 32))).l=b.drop (b.length - 32)))=false:=hc69
     rw [a55 hc14 (by simp at hc55;omega) (by simpa using h9),e1,←a7B,b4d b (by simp at hc55;omega)]
     unfold a3I
     rw [List.take_take,Nat.min_eq_left (by simp at hc55;omega)];rfl
abbrev Cav:=m9
abbrev O4:=p6
abbrev Bnd:=p8
abbrev Rq:=p9
def T5 {α:Type} (f:α→List UInt8) (l:List α):List UInt8:=(l.map f).flatten
theorem a1E {α:Type} (f:α→List UInt8) (l:List α) (k:Nat) (h:k < l.length):T5 f (l.take (k+1))=T5 f (l.take k)++f l[k]:=by
 unfold T5;rw [List.take_succ_eq_append_getElem h,List.map_append,List.flatten_append];simp
theorem a18 {α:Type} (f:α→List UInt8) (l:List α) (m:Nat) (h:∀ x∈l,(f x).length≤m):(T5 f l).length≤m*l.length:=by
 induction l with
 | nil=>simp [T5]
 | cons n l ih =>
  have h1:=h n (by simp)
  have h2:=ih fun x hx=>h x (by simp [hx])
  unfold T5 at h2 ⊢
  rw [List.map_cons,List.flatten_cons,List.length_append,List.length_cons,Nat.mul_add];omega
theorem a2r {α:Type} (f:α→List UInt8) (l:List α) (m k:Nat) (h:∀ x∈l,(f x).length≤m):(T5 f (l.take k)).length≤m*l.length:=by
 have h1:=a18 f (l.take k) m fun x hx=>h x (List.mem_of_mem_take hx)
 have h2:(l.take k).length≤l.length:=by simp;omega
 exact Nat.le_trans h1 (Nat.mul_le_mul_left m h2)
def H5 (c:Cav):Bool :=
 if c.K5 then decide (c.a2F=default)&&decide (0≤c.F9)&&decide (c.F9≤7)&&(decide (1≤c.j9.length)&&decide (c.j9.length≤1024))&&(decide (1≤c.Y0.length)&&decide (c.Y0.length≤1024))
 else A7 c.a2F&&decide (c.F9=0)&&decide (c.j9.length=0)&&decide (c.Y0.length=0)
def a0w (x:List UInt8):List UInt8:=J7 x.length++x
def D9 (c:Cav):List UInt8:=if c.K5 then 2::(J7 c.F9.toNat++a0w c.j9++a0w c.Y0) else 1::u6 c.a2F
def X5 (c:Cav):List UInt8×Int:=if H5 c then (D9 c,0) else ([],5)
theorem a1F {x:List UInt8} (h:x.length≤1024):(a0w x).length≤1031:=by
 have:=B2 (n:=x.length) (by omega)
 unfold a0w;rw [List.length_append];omega
theorem a0V {c:Cav} (h:H5 c=true) (h3:c.K5=true):c.a2F=default∧0≤c.F9∧c.F9≤7∧1≤c.j9.length∧c.j9.length≤1024∧1≤c.Y0.length∧c.Y0.length≤1024:=by
 unfold H5 at h;rw [if_pos h3] at h
 simp only [Bool.and_eq_true,decide_eq_true_eq] at h
 obtain⟨⟨⟨⟨a,b⟩,c⟩,d,e⟩,f,g⟩:=h
 exact⟨a,b,c,d,e,f,g⟩
theorem a0W {c:Cav} (h:H5 c=true) (h3:c.K5=false):A7 c.a2F=true∧c.F9=0∧c.j9 = []∧c.Y0 = []:=by
 unfold H5 at h;rw [if_neg (by rw [h3];decide)] at h
 simp only [Bool.and_eq_true,decide_eq_true_eq,List.length_eq_zero_iff] at h
 obtain⟨⟨⟨a,b⟩,c⟩,d⟩:=h
 exact⟨a,b,c,d⟩
theorem a2l {c:Cav} (h:H5 c=true):(D9 c).length≤2100:=by
 unfold D9
 cases h3:c.K5
 ·obtain⟨h1,_⟩:=a0W h h3
  have:=H7 (K6 h1)
  simp;omega
 ·obtain⟨_,p0,p1,_,t1,_,b1⟩:=a0V h h3
  have l1:=B2 (n:=c.F9.toNat) (by omega)
  have l2:=a1F t1
  have l3:=a1F b1
  simp;omega
def a0J (l:List Cav):List Pred:=(l.filter fun c => !c.K5).map (·.a2F)
theorem a2m (l:List Cav) (k:Nat) (h:k < l.length):a0J (l.take (k+1))=a0J (l.take k)++if l[k].K5 then [] else [l[k].a2F]:=by
 unfold a0J;rw [List.take_succ_eq_append_getElem h,List.filter_append,List.map_append]
 cases h2:l[k].K5<;>simp [h2]
theorem a0X (l:List Cav):(a0J l).length≤l.length:=by
 unfold a0J;rw [List.length_map];exact List.length_filter_le _ _
def a1g (l:List Cav):Int:=(l.length:Int) - (a0J l).length
def X7 (n:Int):List UInt8 := [109,105,110,116]++J7 n.toNat
def a0e (c:Cav):List UInt8 := [99,97,118,101,97,116]++(X5 c).1
def G2:List UInt8 := [110,111,100,101]
def D4 (t:List UInt8):List UInt8 := [115,101,97,108]++t
def W0 (t:List UInt8):List UInt8 := [103,114,97,110,116]++t
def S6 (p:Pred):List UInt8 := [99,111,110,100,105,116,105,111,110]++(V1 p).1
def a1h (r:Rq):List UInt8:=J7 r.Gate.toNat++J7 r.E5.toNat
def a1r (r:Rq):List UInt8 := [114,101,113,117,101,115,116]++a1h r
def U0 (leaf:Tag) (r:Rq):List UInt8 := [98,105,110,100]++(leaf.l++a1h r)
def S1 (r:Rq):Bool:=decide (0≤r.Gate)&&decide (r.Gate < 8)&&decide (1≤r.E5)&&decide (r.E5≤281474976710656)
theorem a1i {r:Rq} (h:S1 r=true):0≤r.Gate∧r.Gate < 8∧1≤r.E5∧r.E5≤281474976710656:=by
 unfold S1 at h;simp only [Bool.and_eq_true,decide_eq_true_eq] at h;omega
def Y2 (p:Tag→List UInt8→Tag×Bool) (o:Option (List Tag)) (m:List UInt8):Option (List Tag) :=
 o.bind fun l=>if (p (l.getLastD default) m).2 then some (l ++ [(p (l.getLastD default) m).1]) else none
def M9 (p:Tag→List UInt8→Tag×Bool) (k:Tag) (l:List (List UInt8)):Option (List Tag):=l.foldl (Y2 p) (some [k])
theorem a5h (p:Tag→List UInt8→Tag×Bool) (l:List (List UInt8)):l.foldl (Y2 p) none=none:=by
 induction l with
 | nil=>rfl
 | cons m l ih=>exact ih
theorem a8S (p:Tag→List UInt8→Tag×Bool) (k:Tag) (l:List (List UInt8)) (i:Nat) (h:i < l.length):M9 p k (l.take (i+1))=Y2 p (M9 p k (l.take i)) l[i]:=by
 unfold M9;rw [List.take_succ_eq_append_getElem h,List.foldl_append];rfl
theorem b4e (p:Tag→List UInt8→Tag×Bool) (k:Tag) (l:List (List UInt8)) (i:Nat) (h:M9 p k (l.take i)=none):M9 p k l=none:=by
 unfold M9 at *
 rw [←List.take_append_drop i l,List.foldl_append,h,a5h]
def D0 (n:Int) (l:List Cav):List (List UInt8):=X7 n::l.map a0e
def J8 (e n:Int):Bool:=decide (1≤e)&&decide (e≤1000)&&decide (1≤n)&&decide (n≤1073741824)
def Y4 (a:D3) (root:u7) (n:Int) (l:List Cav):List Tag×Int :=
 if J8 root.Number n=false then ([],1) else if l.all H5=false then ([],5) else
 match M9 (m5 a) root.Key (D0 n l) with
 | some t=>(t.drop 1,0)
 | none=>([],19)
def a0f (a:D3) (o:Option (List Tag)) (t:Tag):Option (List Tag) :=
 o.bind fun l=>if (m5 a t G2).2 then some (l ++ [(m5 a t G2).1]) else none
def a0R (a:D3) (l:List Tag):Option (List Tag):=l.foldl (a0f a) (some [])
theorem a8T (a:D3) (l:List Tag):l.foldl (a0f a) none=none:=by
 induction l with
 | nil=>rfl
 | cons m l ih=>exact ih
theorem a7D (a:D3) (l:List Tag) (i:Nat) (h:i < l.length):a0R a (l.take (i+1))=a0f a (a0R a (l.take i)) l[i]:=by
 unfold a0R;rw [List.take_succ_eq_append_getElem h,List.foldl_append];rfl
theorem b2m (a:D3) (l:List Tag) (i:Nat) (h:a0R a (l.take i)=none):a0R a l=none:=by
 unfold a0R at *
 rw [←List.take_append_drop i l,List.foldl_append,h,a8T]
def a1G (a:D3) (l:List Tag):List Tag×Int:=match a0R a l with|some t=>(t,0)|none=>([],19)
def U1 (a:D3) (o:Option Tag) (p:Pred):Option Tag :=
 o.bind fun t=>if A7 p=true∧p.Kind≠7∧(m5 a t (S6 p)).2=true then some (m5 a t (S6 p)).1 else none
theorem a56 (a:D3) (l:List Pred):l.foldl (U1 a) none=none:=by
 induction l with
 | nil=>rfl
 | cons m l ih=>exact ih
def a4M (a:D3) (k:Tag) (t:List UInt8):Option Tag:=if (m5 a k (W0 t)).2 then some (m5 a k (W0 t)).1 else none
def S2 (a:D3) (k:Tag) (t:List UInt8) (l:List Pred):Option Tag:=l.foldl (U1 a) (a4M a k t)
theorem a9Q (a:D3) (k:Tag) (t:List UInt8) (l:List Pred) (i:Nat) (h:i < l.length):S2 a k t (l.take (i+1))=U1 a (S2 a k t (l.take i)) l[i]:=by
 unfold S2;rw [List.take_succ_eq_append_getElem h,List.foldl_append];rfl
theorem a66 (a:D3) (k:Tag) (t:List UInt8) (l:List Pred) (i:Nat) (h:S2 a k t (l.take i)=none):S2 a k t l=none:=by
 unfold S2 at *
 rw [←List.take_append_drop i l,List.foldl_append,h,a56]
def a0p (a:D3) (leaf:Tag) (r:Rq):Tag×Bool:=if S1 r then m5 a leaf (a1r r) else (default,false)
def V2 (a:D3) (t leaf:Tag) (r:Rq):Tag×Bool:=if S1 r then m5 a t (U0 leaf r) else (default,false)
theorem a9t {a:D3} {k:Tag} {m:List UInt8} (h:(m5 a k m).2=false):(m5 a k m).1=default:=by
 unfold m5 M8 at *
 split
 ·next hf=>rw [if_pos hf] at h;cases hq:S4 a k m with|none=>rfl|some x=>rw [hq] at h;cases h
 ·next hf =>
  rw [if_neg hf] at h
  split
  ·rfl
  ·next h2=>rw [if_neg h2] at h;cases h
def a1H (a:D3) (k:Tag) (t:List UInt8) (l:List Pred):Tag×Bool:=((S2 a k t l).getD default,(S2 a k t l).isSome)
theorem b2n (a:D3) (k:Tag) (m:List UInt8):(if (m5 a k m).2=true then some (m5 a k m).1 else none).isSome=(m5 a k m).2∧(if (m5 a k m).2=true then some (m5 a k m).1 else none).getD default=(m5 a k m).1:=by
 cases h:(m5 a k m).2 with
 | false=>rw [if_neg (by decide)];exact⟨rfl,(a9t h).symm⟩
 | true=>rw [if_pos rfl];exact⟨rfl,rfl⟩
theorem a9R (a:D3) (k:Tag) (t:List UInt8) (l:List Pred):(S2 a k t (l.take 0)).isSome=(m5 a k (W0 t)).2∧(S2 a k t (l.take 0)).getD default=(m5 a k (W0 t)).1:=b2n a k (W0 t)
theorem b2o {a:D3} {k:Tag} {t:List UInt8} {l:List Pred} {i:Nat} (h:i < l.length) (hb:(!A7 l[i]||decide (l[i].Kind=7))=true):S2 a k t l=none:=by
 refine a66 a k t l (i+1) ?_
 rw [a9Q a k t l i h]
 cases S2 a k t (l.take i) with
 | none=>rfl
 | some u =>
  unfold U1
  simp only [Option.bind_some]
  rw [if_neg]
  rintro⟨h1,h2,_⟩
  simp [h1,h2] at hb
theorem a9S {a : D3} {k : Tag} {t : List UInt8} {l : List Pred} {i : Nat} (h : i < l.length) (hs : (S2 a k t (l.take i)).isSome = true) (hb : (!A7 l[i] || decide (l[i].Kind = 7)) = false) :
    (S2 a k t (l.take (i+1))).isSome=(m5 a ((S2 a k t (l.take i)).getD default) (S6 l[i])).2∧(S2 a k t (l.take (i+1))).getD default=(m5 a ((S2 a k t (l.take i)).getD default) (S6 l[i])).1:=by
  rw [a9Q a k t l i h]
  obtain⟨u,hu⟩:=Option.isSome_iff_exists.1 hs
  rw [hu]
  have hb2:A7 l[i]=true∧l[i].Kind≠7:=by simpa using hb
  have e:U1 a (some u) l[i]=if (m5 a u (S6 l[i])).2=true then some (m5 a u (S6 l[i])).1 else none:=by
    unfold U1
    simp only [Option.bind_some]
    by_cases h3:(m5 a u (S6 l[i])).2=true
    · rw [if_pos ⟨hb2.1,hb2.2,h3⟩,if_pos h3]
    · rw [if_neg fun h4=>h3 h4.2.2,if_neg h3]
  rw [e]
  exact b2n a u _
theorem a7E (p:Pred):decide ((V1 p).2≠0) = !A7 p:=by
 unfold V1
 cases h:A7 p<;>simp
theorem b2p {s:List Tag} (h:0 < s.length) (h2:((s.length:Int) - 1).toNat < s.length):s[((s.length:Int) - 1).toNat]=s.getLastD default:=by
 rw [List.getLastD_eq_getLast?,List.getLast?_eq_getElem?]
 have:((s.length:Int) - 1).toNat=s.length - 1:=by omega
 simp only [this]
 rw [List.getElem?_eq_getElem (by omega)];rfl
theorem b8u {p:Tag→List UInt8→Tag×Bool} {k:Tag} {l:List (List UInt8)} {i:Nat} {s:List Tag} (h:i < l.length) (hw:M9 p k (l.take i)=some s) (hb:(p (s.getLastD default) l[i]).2=false):M9 p k l=none:=by
 refine b4e p k l (i+1) ?_
 rw [a8S p k l i h,hw]
 show(if (p (s.getLastD default) l[i]).2 then some (s ++ [(p (s.getLastD default) l[i]).1]) else none)=none
 rw [hb];rfl
theorem b6x {p:Tag→List UInt8→Tag×Bool} {k:Tag} {l:List (List UInt8)} {i:Nat} {s:List Tag} (h:i < l.length) (hw:M9 p k (l.take i)=some s) (hb:(p (s.getLastD default) l[i]).2=true):M9 p k (l.take (i+1))=some (s ++ [(p (s.getLastD default) l[i]).1]):=by
 rw [a8S p k l i h,hw]
 show(if (p (s.getLastD default) l[i]).2 then some (s ++ [(p (s.getLastD default) l[i]).1]) else none)=_
 rw [hb];rfl
theorem a8U (n:Int) (l:List Cav) (i:Nat) (h:i < l.length):D0 n (l.take (i+1))=D0 n (l.take i) ++ [a0e l[i]]:=by
 unfold D0;rw [List.take_succ_eq_append_getElem h,List.map_append];rfl
theorem a57 {p:Tag→List UInt8→Tag×Bool} {k:Tag}:∀ {l:List (List UInt8)} {s r:List Tag},l.foldl (Y2 p) (some s)=some r→∃ T,r=s++T∧T.length=l.length
 | [],s,r,h=>⟨[],by cases h;simp,rfl⟩
 | m::l,s,r,h=>by
  rw [List.foldl_cons] at h
  cases h2:Y2 p (some s) m with
  | none=>rw [h2,a5h] at h;cases h
  | some v =>
   rw [h2] at h
   obtain⟨T,h3,h4⟩:=a57 (k:=k) h
   have:∃ t,v=s ++ [t]:=by
    have h5:(if (p (s.getLastD default) m).2 then some (s ++ [(p (s.getLastD default) m).1]) else none)=some v:=h2
    split at h5
    ·exact⟨_,(Option.some.inj h5).symm⟩
    ·cases h5
   obtain⟨t,rfl⟩:=this
   exact⟨t::T,by rw [h3,List.append_assoc];rfl,by simp [h4]⟩
theorem a5B (n:Int) (l:List Cav):(D0 n l).length=l.length+1:=by unfold D0;simp
theorem getLastD_cons {k:Tag} {s:List Tag} (h:0 < s.length):(k::s).getLastD default=s.getLastD default:=by
 cases s with
 | nil=>simp at h
 | cons b s=>simp [List.getLastD]
theorem b6y {e n:Int} (h:(decide (e < 1)||decide (1000 < e)||decide (n < 1)||decide (1073741824 < n))=true):J8 e n=false:=by
 simp only [Bool.or_eq_true,decide_eq_true_eq] at h
 unfold J8;simp only [Bool.and_eq_false_iff,decide_eq_false_iff_not];omega
theorem a58 {e n:Int} (h:(decide (e < 1)||decide (1000 < e)||decide (n < 1)||decide (1073741824 < n))=false):J8 e n=true:=by
 simp only [Bool.or_eq_false_iff,decide_eq_false_iff_not] at h
 unfold J8;simp only [Bool.and_eq_true,decide_eq_true_eq];omega
theorem a7F {e n:Int} (h:J8 e n=true):1≤e∧e≤1000∧1≤n∧n≤1073741824:=by
 unfold J8 at h;simp only [Bool.and_eq_true,decide_eq_true_eq] at h;omega
theorem c0k {a:D3} {root:u7} {n:Int} {l:List Cav} (h:J8 root.Number n=false):Y4 a root n l=([],1):=by unfold Y4;rw [if_pos h]
theorem c0l {a:D3} {root:u7} {n:Int} {l:List Cav} (h:J8 root.Number n=true) (h2:l.all H5=false):Y4 a root n l=([],5):=by unfold Y4;rw [if_neg (by rw [h];decide),if_pos h2]
theorem b8v {a:D3} {root:u7} {n:Int} {l:List Cav} (h:J8 root.Number n=true) (h2:l.all H5=true) (h3:M9 (m5 a) root.Key (D0 n l)=none):Y4 a root n l=([],19):=by
 unfold Y4;rw [if_neg (by rw [h];decide),if_neg (by rw [h2];decide),h3]
theorem c0m {a:D3} {root:u7} {n:Int} {l:List Cav} {t:List Tag} (h:J8 root.Number n=true) (h2:l.all H5=true) (h3:M9 (m5 a) root.Key (D0 n l)=some t):Y4 a root n l=(t.drop 1,0):=by
 unfold Y4;rw [if_neg (by rw [h];decide),if_neg (by rw [h2];decide),h3]
theorem b6z {a:D3} {l:List Tag} {i:Nat} (h:i < l.length) (hb:(m5 a l[i] G2).2=false):a0R a l=none:=by
 refine b2m a l (i+1) ?_
 rw [a7D a l i h]
 cases a0R a (l.take i) with
 | none=>rfl
 | some s =>
  show(if (m5 a l[i] G2).2 then some (s ++ [(m5 a l[i] G2).1]) else none)=none
  rw [hb];rfl
theorem b4f {a:D3} {l:List Tag} {i:Nat} {s:List Tag} (h:i < l.length) (hw:a0R a (l.take i)=some s) (hb:(m5 a l[i] G2).2=true):a0R a (l.take (i+1))=some (s ++ [(m5 a l[i] G2).1]):=by
 rw [a7D a l i h,hw]
 show(if (m5 a l[i] G2).2 then some (s ++ [(m5 a l[i] G2).1]) else none)=_
 rw [hb];rfl
def K7 (d:Bnd):List UInt8:=a0w d.j9++J7 d.l8.length++T5 u6 d.l8++d.Proof.l
def a1j (b:O4):List UInt8:=numsL [1,b.Request.Gate,b.Request.E5,b.C7,b.y7,b.j7.length]++T5 D9 b.j7++b.Proof.l++J7 b.j3.length++T5 K7 b.j3
def a3p (d:Bnd):Bool:=decide (d.j9.length < 1)||decide (1024 < d.j9.length)||d.l8.any fun p => !A7 p
def a3J (d:Bnd):Bool:=d.l8.any fun p=>decide (p.Kind=7)
def a1Q (d:Bnd):Bool:=decide (8 < d.l8.length)
def V3 (l:List Bnd) (k:Nat):Bool:=(List.range k).any fun i=>(l.take i).any fun x=>decide (x.j9=(l.getD i default).j9)
def a3q (l:List Bnd):Bool:=V3 l l.length
theorem a38 (l:List Bnd) (k:Nat) (h:k < l.length):V3 l (k+1)=(V3 l k||(l.take k).any fun x=>decide (x.j9=l[k].j9)):=by
 unfold V3;rw [List.range_succ,List.any_append];simp [List.getD_eq_getElem?_getD,h]
def L8 (b:O4):Bool:=S1 b.Request&&(decide (1≤b.C7)&&decide (b.C7≤1000)&&decide (1≤b.y7)&&decide (b.y7≤1073741824))
def S7 (b:O4):Bool:=decide (64 < b.j7.length)||decide (8 < a1g b.j7)||decide (8 < b.j3.length)||b.j3.any a1Q
def F7 (b:O4):Int :=
 if L8 b=false then 1 else if S7 b then 2 else if (b.j7.any fun c => !H5 c)||b.j3.any a3p then 5
 else if b.j3.any a3J then 6 else if a3q b.j3 then 10 else 0
def K3 (b:O4):Int:=if F7 b≠0 then F7 b else if 4096 < (a1j b).length then 2 else 0
structure a7G (b:O4):Prop where
 range:L8 b=true
 rq:0≤b.Request.Gate∧b.Request.Gate < 8∧1≤b.Request.E5∧b.Request.E5≤281474976710656
 num:1≤b.C7∧b.C7≤1000∧1≤b.y7∧b.y7≤1073741824
 a4N:b.j7.length≤64
 c3u:b.j3.length≤8
 a74:∀ d∈b.j3,d.l8.length≤8
 cav:∀ c∈b.j7,H5 c=true
 tick:∀ d∈b.j3,1≤d.j9.length∧d.j9.length≤1024
 con:∀ d∈b.j3,∀ p∈d.l8,A7 p=true
 b8w:∀ d∈b.j3,∀ p∈d.l8,p.Kind≠7
 c1k:a3q b.j3=false
theorem a4O {b:O4} (h:F7 b=0):a7G b:=by
 unfold F7 at h
 split at h
 ·cases h
 ·next h1 =>
  split at h
  ·cases h
  ·next h2 =>
   split at h
   ·cases h
   ·next h3 =>
    split at h
    ·cases h
    ·next h4 =>
     split at h
     ·cases h
     ·next h5 =>
      have h1:L8 b=true:=by simpa using h1
      have h2:S7 b=false:=by simpa using h2
      simp only [Bool.or_eq_true,not_or,Bool.not_eq_true] at h3
      obtain⟨h3a,h3b⟩:=h3
      have h6:=h1
      unfold L8 at h6
      unfold S7 at h2
      simp only [Bool.and_eq_true,decide_eq_true_eq] at h6
      simp only [Bool.not_eq_true] at h4
      simp only [Bool.or_eq_false_iff,decide_eq_false_iff_not,List.any_eq_false] at h2 h3a h3b h4
      refine⟨h1,a1i h6.1,by omega,by omega,by omega,fun d hd => ?_,fun c hc=>by simpa using h3a c hc,fun d hd => ?_,fun d hd p hp => ?_,fun d hd p hp => ?_,by simpa using h5⟩
      ·have:=h2.2 d hd;unfold a1Q at this;simp at this;exact this
      ·have:=h3b d hd;unfold a3p at this;simp only [Bool.not_eq_true,Bool.or_eq_false_iff,decide_eq_false_iff_not] at this;omega
      ·have:=h3b d hd;unfold a3p at this;simp at this;exact this.2 p hp
      ·have:=h4 d hd;unfold a3J at this;simp at this;exact this p hp
theorem b0R {d:Bnd} (h1:d.l8.length≤8) (h2:d.j9.length≤1024) (h3:∀ p∈d.l8,A7 p=true):(K7 d).length≤1400:=by
 have l1:=a1F h2
 have l2:=B2 (n:=d.l8.length) (by omega)
 have l3:=a18 u6 d.l8 24 fun p hp=>H7 (K6 (h3 p hp))
 unfold K7
 simp only [List.length_append,d.Proof.len]
 omega
theorem b2q (m M:UInt64) (k:Nat) (hk:k < 64) (hM:M.toNat=2^k - 1):(m &&& M) >>> UInt64.ofNat k=0:=by
 apply UInt64.toNat_inj.1
 rw [UInt64.toNat_shiftRight,UInt64.toNat_and,hM,Nat.and_two_pow_sub_one_eq_mod,Nat.shiftRight_eq_div_pow]
 have e:(UInt64.ofNat k).toNat=k:=by simp;omega
 rw [e,Nat.mod_eq_of_lt (show k < 64 by omega)]
 show m.toNat % 2^k/2^k=0
 exact Nat.div_eq_of_lt (Nat.mod_lt _ (Nat.two_pow_pos k))
theorem c0n (n:Nat) (hn:n < 64):((1:UInt64) <<< UInt64.ofNat n).toNat=2^n:=by
 rw [UInt64.toNat_shiftLeft]
 have e:(UInt64.ofNat n).toNat=n:=by simp;omega
 rw [e,Nat.mod_eq_of_lt (show n < 64 by omega)]
 show(1 <<< n) % 2^64=2^n
 rw [Nat.one_shiftLeft]
 exact Nat.mod_eq_of_lt (Nat.pow_lt_pow_right (by decide) hn)
theorem ofInt_ofNat {v:Int} (h0:0≤v):UInt64.ofInt v=UInt64.ofNat v.toNat:=by
 obtain⟨n,rfl⟩:=Int.eq_ofNat_of_zero_le h0
 apply UInt64.toNat_inj.1
 simp [UInt64.ofInt];omega
theorem a0x {x:UInt64} {b:Int} (hb:b=64∨b=32∨b=7) (h3:b < 64) (h:¬(x &&& ((1 <<< UInt64.ofInt b) - 1))=0):a1e (x &&& ((1 <<< UInt64.ofInt b) - 1)) b=true:=by
 have h2:(x &&& ((1 <<< UInt64.ofInt b) - 1)) >>> UInt64.ofNat b.toNat=0:=by
  rcases hb with rfl|rfl|rfl
  ·omega
  ·exact b2q x _ 32 (by decide) (by decide)
  ·exact b2q x _ 7 (by decide) (by decide)
 unfold a1e;rw [h2];simp [h]
theorem a0y {x:UInt64} {b:Int} (hb:b=64∨b=32∨b=7) (h3:¬b < 64) (h:¬x=0):a1e x b=true:=by
 obtain rfl:b=64:=by omega
 unfold a1e;simp [h]
theorem a0z {v b:Int} (hb:b=64∨b=32∨b=7) (h0:0≤v) (h1:v < b):a1e (1 <<< UInt64.ofInt v) b=true:=by
 have hv:v.toNat < 64:=by omega
 have h2:=c0n v.toNat hv
 rw [ofInt_ofNat h0]
 have hne:¬((1:UInt64) <<< UInt64.ofNat v.toNat)=0:=fun e=>by
  rw [e] at h2
  have:=Nat.two_pow_pos v.toNat
  simp at h2;omega
 unfold a1e
 by_cases h64:b=64
 ·simp [hne,h64]
 ·have h3:((1:UInt64) <<< UInt64.ofNat v.toNat) >>> UInt64.ofNat b.toNat=0:=by
   apply UInt64.toNat_inj.1
   rw [UInt64.toNat_shiftRight,h2,Nat.shiftRight_eq_div_pow]
   have e:(UInt64.ofNat b.toNat).toNat=b.toNat:=by simp;omega
   rw [e,Nat.mod_eq_of_lt (show b.toNat < 64 by omega)]
   exact Nat.div_eq_of_lt (Nat.pow_lt_pow_right (by decide) (by omega))
  rw [h3];simp [hne]
theorem a4P (w:Value) (d:m6) (b:Int) (hd:H6 d) (hb:b=64∨b=32∨b=7):F5 gl prog 85 [dk w,.v b] [.ob w d] (fun r Hs=>∃ m:UInt64,a1e m b=true∧∃ d',H6 d'∧r = .v m∧Hs = [.ob w d']):=by
 refine F5.Q4 func85 rfl (by kernel_rfl) 45 rfl rfl _ rfl _ rfl fun C hC hG => ?_
 refine .q 12 hG ?_
 refine .h (.C6 hG (G1 _ _ _ (by first|assumption|exact x9 _) (by omega) (by omega)) .z (.cons (.t a8) (.cons (.i a8) .nil)) (by rintro _ _ ⟨_,_,_,_,_,_,rfl⟩;exact⟨_,rfl⟩) fun r7 B7 hr7 => ?_)
 obtain⟨v7,d7,h07,h17,hd7,rfl,hB⟩:=hr7
 cases hB
 refine .q 8 hG ⟨fun hc8 => ?_,fun hc8 => ?_⟩
 ·refine .q 2 hG ?_
  refine .h (.C6 hG (G1 _ _ _ (by first|assumption|exact x9 _) (by omega) (by omega)) .z (.cons (.t a8) (.cons (.i a8) .nil)) (by rintro _ _ ⟨_,_,_,_,_,_,rfl⟩;exact⟨_,rfl⟩) fun r11 B11 hr11 => ?_)
  obtain⟨v11,d11,h011,h111,hd11,rfl,hB⟩:=hr11
  cases hB
  refine .q 10 hG ⟨fun hc30 => ?_,fun hc30 => ?_⟩
  ·have hbn:(UInt64.ofInt b).toNat < 64:=by rcases hb with rfl|rfl|rfl;omega;decide;decide
   refine .q 4 hG ?_
   refine .p (.a2u (.u64 1 a8) (.t a8) (by omega) (by omega) (.p (.a7l (.t a8) (.u64 1 a8) (.p (.a8i (.t a8) (.t a8) ?_)))))
   refine .q 9 hG ⟨fun hc38 => ?_,fun hc38 => ?_⟩
   ·refine .q 4 hG ?_
    refine .h (.C6 hG (G1 _ _ _ (by first|assumption|exact x9 _) (by omega) (by omega)) .z (.cons (.t a8) (.cons (.t a8) .nil)) (by rintro _ _ ⟨_,_,_,_,_,_,rfl⟩;exact⟨_,rfl⟩) fun r41 B41 hr41 => ?_)
    obtain⟨v41,d41,h041,h141,hd41,rfl,hB⟩:=hr41
    cases hB
    have hvn:(UInt64.ofInt v41).toNat < 64:=by rw [ofInt_ofNat h041];simp;omega
    refine .q 1 hG ?_
    refine .p (.a2u (.u64 1 a8) (.t a8) (by omega) (by omega) ?_)
    refine .q 3 hG ?_
    refine .e1 a8 a8 ?_
    refine⟨_,.cons .z (.nil),?_⟩
    first|exact⟨_,a0x hb (by assumption) (by assumption),_,by assumption,rfl,rfl⟩|exact⟨_,a0y hb (by assumption) (by assumption),_,by assumption,rfl,rfl⟩|exact⟨_,a0z hb (by assumption) (by assumption),_,by assumption,rfl,rfl⟩
   ·refine .q 7 hG ?_
    refine .e1 a8 a8 ?_
    refine⟨_,.cons .z (.nil),?_⟩
    first|exact⟨_,a0x hb (by assumption) (by assumption),_,by assumption,rfl,rfl⟩|exact⟨_,a0y hb (by assumption) (by assumption),_,by assumption,rfl,rfl⟩|exact⟨_,a0z hb (by assumption) (by assumption),_,by assumption,rfl,rfl⟩
  ·refine .q 8 hG ⟨fun hc38 => ?_,fun hc38 => ?_⟩
   ·refine .q 4 hG ?_
    refine .h (.C6 hG (G1 _ _ _ (by first|assumption|exact x9 _) (by omega) (by omega)) .z (.cons (.t a8) (.cons (.t a8) .nil)) (by rintro _ _ ⟨_,_,_,_,_,_,rfl⟩;exact⟨_,rfl⟩) fun r41 B41 hr41 => ?_)
    obtain⟨v41,d41,h041,h141,hd41,rfl,hB⟩:=hr41
    cases hB
    have hvn:(UInt64.ofInt v41).toNat < 64:=by rw [ofInt_ofNat h041];simp;omega
    refine .q 1 hG ?_
    refine .p (.a2u (.u64 1 a8) (.t a8) (by omega) (by omega) ?_)
    refine .q 3 hG ?_
    refine .e1 a8 a8 ?_
    refine⟨_,.cons .z (.nil),?_⟩
    first|exact⟨_,a0x hb (by assumption) (by assumption),_,by assumption,rfl,rfl⟩|exact⟨_,a0y hb (by assumption) (by assumption),_,by assumption,rfl,rfl⟩|exact⟨_,a0z hb (by assumption) (by assumption),_,by assumption,rfl,rfl⟩
   ·refine .q 7 hG ?_
    refine .e1 a8 a8 ?_
    refine⟨_,.cons .z (.nil),?_⟩
    first|exact⟨_,a0x hb (by assumption) (by assumption),_,by assumption,rfl,rfl⟩|exact⟨_,a0y hb (by assumption) (by assumption),_,by assumption,rfl,rfl⟩|exact⟨_,a0z hb (by assumption) (by assumption),_,by assumption,rfl,rfl⟩
 ·refine .q 6 hG ⟨fun hc13 => ?_,fun hc13 => ?_⟩
  ·refine .q 2 hG ?_
   refine .h (.C6 hG (G1 _ _ _ (by first|assumption|exact x9 _) (by omega) (by omega)) .z (.cons (.t a8) (.cons (.i a8) .nil)) (by rintro _ _ ⟨_,_,_,_,_,_,rfl⟩;exact⟨_,rfl⟩) fun r16 B16 hr16 => ?_)
   obtain⟨v16,d16,h016,h116,hd16,rfl,hB⟩:=hr16
   cases hB
   refine .q 2 hG ?_
   refine .h (.C6 hG (G1 _ _ _ (by first|assumption|exact x9 _) (by omega) (by omega)) .z (.cons (.t a8) (.cons (.i a8) .nil)) (by rintro _ _ ⟨_,_,_,_,_,_,rfl⟩;exact⟨_,rfl⟩) fun r19 B19 hr19 => ?_)
   obtain⟨v19,d19,h019,h119,hd19,rfl,hB⟩:=hr19
   cases hB
   refine .q 1 hG ?_
   refine .p (.a2u (.t a8) (.u64 48 a8) (by omega) (by simp) (.p (.c1s (.t a8) (.t a8) ?_)))
   refine .q 9 hG ⟨fun hc30 => ?_,fun hc30 => ?_⟩
   ·have hbn:(UInt64.ofInt b).toNat < 64:=by rcases hb with rfl|rfl|rfl;omega;decide;decide
    refine .q 4 hG ?_
    refine .p (.a2u (.u64 1 a8) (.t a8) (by omega) (by omega) (.p (.a7l (.t a8) (.u64 1 a8) (.p (.a8i (.t a8) (.t a8) ?_)))))
    refine .q 9 hG ⟨fun hc38 => ?_,fun hc38 => ?_⟩
    ·refine .q 4 hG ?_
     refine .h (.C6 hG (G1 _ _ _ (by first|assumption|exact x9 _) (by omega) (by omega)) .z (.cons (.t a8) (.cons (.t a8) .nil)) (by rintro _ _ ⟨_,_,_,_,_,_,rfl⟩;exact⟨_,rfl⟩) fun r41 B41 hr41 => ?_)
     obtain⟨v41,d41,h041,h141,hd41,rfl,hB⟩:=hr41
     cases hB
     have hvn:(UInt64.ofInt v41).toNat < 64:=by rw [ofInt_ofNat h041];simp;omega
     refine .q 1 hG ?_
     refine .p (.a2u (.u64 1 a8) (.t a8) (by omega) (by omega) ?_)
     refine .q 3 hG ?_
     refine .e1 a8 a8 ?_
     refine⟨_,.cons .z (.nil),?_⟩
     first|exact⟨_,a0x hb (by assumption) (by assumption),_,by assumption,rfl,rfl⟩|exact⟨_,a0y hb (by assumption) (by assumption),_,by assumption,rfl,rfl⟩|exact⟨_,a0z hb (by assumption) (by assumption),_,by assumption,rfl,rfl⟩
    ·refine .q 7 hG ?_
     refine .e1 a8 a8 ?_
     refine⟨_,.cons .z (.nil),?_⟩
     first|exact⟨_,a0x hb (by assumption) (by assumption),_,by assumption,rfl,rfl⟩|exact⟨_,a0y hb (by assumption) (by assumption),_,by assumption,rfl,rfl⟩|exact⟨_,a0z hb (by assumption) (by assumption),_,by assumption,rfl,rfl⟩
   ·refine .q 8 hG ⟨fun hc38 => ?_,fun hc38 => ?_⟩
    ·refine .q 4 hG ?_
     refine .h (.C6 hG (G1 _ _ _ (by first|assumption|exact x9 _) (by omega) (by omega)) .z (.cons (.t a8) (.cons (.t a8) .nil)) (by rintro _ _ ⟨_,_,_,_,_,_,rfl⟩;exact⟨_,rfl⟩) fun r41 B41 hr41 => ?_)
     obtain⟨v41,d41,h041,h141,hd41,rfl,hB⟩:=hr41
     cases hB
     have hvn:(UInt64.ofInt v41).toNat < 64:=by rw [ofInt_ofNat h041];simp;omega
     refine .q 1 hG ?_
     refine .p (.a2u (.u64 1 a8) (.t a8) (by omega) (by omega) ?_)
     refine .q 3 hG ?_
     refine .e1 a8 a8 ?_
     refine⟨_,.cons .z (.nil),?_⟩
     first|exact⟨_,a0x hb (by assumption) (by assumption),_,by assumption,rfl,rfl⟩|exact⟨_,a0y hb (by assumption) (by assumption),_,by assumption,rfl,rfl⟩|exact⟨_,a0z hb (by assumption) (by assumption),_,by assumption,rfl,rfl⟩
    ·refine .q 7 hG ?_
     refine .e1 a8 a8 ?_
     refine⟨_,.cons .z (.nil),?_⟩
     first|exact⟨_,a0x hb (by assumption) (by assumption),_,by assumption,rfl,rfl⟩|exact⟨_,a0y hb (by assumption) (by assumption),_,by assumption,rfl,rfl⟩|exact⟨_,a0z hb (by assumption) (by assumption),_,by assumption,rfl,rfl⟩
  ·refine .q 6 hG ⟨fun hc23 => ?_,fun hc23 => ?_⟩
   ·refine .q 2 hG ?_
    refine .h (.C6 hG (G1 _ _ _ (by first|assumption|exact x9 _) (by omega) (by omega)) .z (.cons (.t a8) (.cons (.i a8) .nil)) (by rintro _ _ ⟨_,_,_,_,_,_,rfl⟩;exact⟨_,rfl⟩) fun r26 B26 hr26 => ?_)
    obtain⟨v26,d26,h026,h126,hd26,rfl,hB⟩:=hr26
    cases hB
    refine .q 1 hG ?_
    refine .p (.b7j (.t a8) ?_)
    refine .q 9 hG ⟨fun hc30 => ?_,fun hc30 => ?_⟩
    ·have hbn:(UInt64.ofInt b).toNat < 64:=by rcases hb with rfl|rfl|rfl;omega;decide;decide
     refine .q 4 hG ?_
     refine .p (.a2u (.u64 1 a8) (.t a8) (by omega) (by omega) (.p (.a7l (.t a8) (.u64 1 a8) (.p (.a8i (.t a8) (.t a8) ?_)))))
     refine .q 9 hG ⟨fun hc38 => ?_,fun hc38 => ?_⟩
     ·refine .q 4 hG ?_
      refine .h (.C6 hG (G1 _ _ _ (by first|assumption|exact x9 _) (by omega) (by omega)) .z (.cons (.t a8) (.cons (.t a8) .nil)) (by rintro _ _ ⟨_,_,_,_,_,_,rfl⟩;exact⟨_,rfl⟩) fun r41 B41 hr41 => ?_)
      obtain⟨v41,d41,h041,h141,hd41,rfl,hB⟩:=hr41
      cases hB
      have hvn:(UInt64.ofInt v41).toNat < 64:=by rw [ofInt_ofNat h041];simp;omega
      refine .q 1 hG ?_
      refine .p (.a2u (.u64 1 a8) (.t a8) (by omega) (by omega) ?_)
      refine .q 3 hG ?_
      refine .e1 a8 a8 ?_
      refine⟨_,.cons .z (.nil),?_⟩
      first|exact⟨_,a0x hb (by assumption) (by assumption),_,by assumption,rfl,rfl⟩|exact⟨_,a0y hb (by assumption) (by assumption),_,by assumption,rfl,rfl⟩|exact⟨_,a0z hb (by assumption) (by assumption),_,by assumption,rfl,rfl⟩
     ·refine .q 7 hG ?_
      refine .e1 a8 a8 ?_
      refine⟨_,.cons .z (.nil),?_⟩
      first|exact⟨_,a0x hb (by assumption) (by assumption),_,by assumption,rfl,rfl⟩|exact⟨_,a0y hb (by assumption) (by assumption),_,by assumption,rfl,rfl⟩|exact⟨_,a0z hb (by assumption) (by assumption),_,by assumption,rfl,rfl⟩
    ·refine .q 8 hG ⟨fun hc38 => ?_,fun hc38 => ?_⟩
     ·refine .q 4 hG ?_
      refine .h (.C6 hG (G1 _ _ _ (by first|assumption|exact x9 _) (by omega) (by omega)) .z (.cons (.t a8) (.cons (.t a8) .nil)) (by rintro _ _ ⟨_,_,_,_,_,_,rfl⟩;exact⟨_,rfl⟩) fun r41 B41 hr41 => ?_)
      obtain⟨v41,d41,h041,h141,hd41,rfl,hB⟩:=hr41
      cases hB
      have hvn:(UInt64.ofInt v41).toNat < 64:=by rw [ofInt_ofNat h041];simp;omega
      refine .q 1 hG ?_
      refine .p (.a2u (.u64 1 a8) (.t a8) (by omega) (by omega) ?_)
      refine .q 3 hG ?_
      refine .e1 a8 a8 ?_
      refine⟨_,.cons .z (.nil),?_⟩
      first|exact⟨_,a0x hb (by assumption) (by assumption),_,by assumption,rfl,rfl⟩|exact⟨_,a0y hb (by assumption) (by assumption),_,by assumption,rfl,rfl⟩|exact⟨_,a0z hb (by assumption) (by assumption),_,by assumption,rfl,rfl⟩
     ·refine .q 7 hG ?_
      refine .e1 a8 a8 ?_
      refine⟨_,.cons .z (.nil),?_⟩
      first|exact⟨_,a0x hb (by assumption) (by assumption),_,by assumption,rfl,rfl⟩|exact⟨_,a0y hb (by assumption) (by assumption),_,by assumption,rfl,rfl⟩|exact⟨_,a0z hb (by assumption) (by assumption),_,by assumption,rfl,rfl⟩
   ·refine .q 8 hG ⟨fun hc30 => ?_,fun hc30 => ?_⟩
    ·have hbn:(UInt64.ofInt b).toNat < 64:=by rcases hb with rfl|rfl|rfl;omega;decide;decide
     refine .q 4 hG ?_
     refine .p (.a2u (.u64 1 a8) (.t a8) (by omega) (by omega) (.p (.a7l (.t a8) (.u64 1 a8) (.p (.a8i (.t a8) (.t a8) ?_)))))
     refine .q 9 hG ⟨fun hc38 => ?_,fun hc38 => ?_⟩
     ·refine .q 4 hG ?_
      refine .h (.C6 hG (G1 _ _ _ (by first|assumption|exact x9 _) (by omega) (by omega)) .z (.cons (.t a8) (.cons (.t a8) .nil)) (by rintro _ _ ⟨_,_,_,_,_,_,rfl⟩;exact⟨_,rfl⟩) fun r41 B41 hr41 => ?_)
      obtain⟨v41,d41,h041,h141,hd41,rfl,hB⟩:=hr41
      cases hB
      have hvn:(UInt64.ofInt v41).toNat < 64:=by rw [ofInt_ofNat h041];simp;omega
      refine .q 1 hG ?_
      refine .p (.a2u (.u64 1 a8) (.t a8) (by omega) (by omega) ?_)
      refine .q 3 hG ?_
      refine .e1 a8 a8 ?_
      refine⟨_,.cons .z (.nil),?_⟩
      first|exact⟨_,a0x hb (by assumption) (by assumption),_,by assumption,rfl,rfl⟩|exact⟨_,a0y hb (by assumption) (by assumption),_,by assumption,rfl,rfl⟩|exact⟨_,a0z hb (by assumption) (by assumption),_,by assumption,rfl,rfl⟩
     ·refine .q 7 hG ?_
      refine .e1 a8 a8 ?_
      refine⟨_,.cons .z (.nil),?_⟩
      first|exact⟨_,a0x hb (by assumption) (by assumption),_,by assumption,rfl,rfl⟩|exact⟨_,a0y hb (by assumption) (by assumption),_,by assumption,rfl,rfl⟩|exact⟨_,a0z hb (by assumption) (by assumption),_,by assumption,rfl,rfl⟩
    ·refine .q 8 hG ⟨fun hc38 => ?_,fun hc38 => ?_⟩
     ·refine .q 4 hG ?_
      refine .h (.C6 hG (G1 _ _ _ (by first|assumption|exact x9 _) (by omega) (by omega)) .z (.cons (.t a8) (.cons (.t a8) .nil)) (by rintro _ _ ⟨_,_,_,_,_,_,rfl⟩;exact⟨_,rfl⟩) fun r41 B41 hr41 => ?_)
      obtain⟨v41,d41,h041,h141,hd41,rfl,hB⟩:=hr41
      cases hB
      have hvn:(UInt64.ofInt v41).toNat < 64:=by rw [ofInt_ofNat h041];simp;omega
      refine .q 1 hG ?_
      refine .p (.a2u (.u64 1 a8) (.t a8) (by omega) (by omega) ?_)
      refine .q 3 hG ?_
      refine .e1 a8 a8 ?_
      refine⟨_,.cons .z (.nil),?_⟩
      first|exact⟨_,a0x hb (by assumption) (by assumption),_,by assumption,rfl,rfl⟩|exact⟨_,a0y hb (by assumption) (by assumption),_,by assumption,rfl,rfl⟩|exact⟨_,a0z hb (by assumption) (by assumption),_,by assumption,rfl,rfl⟩
     ·refine .q 7 hG ?_
      refine .e1 a8 a8 ?_
      refine⟨_,.cons .z (.nil),?_⟩
      first|exact⟨_,a0x hb (by assumption) (by assumption),_,by assumption,rfl,rfl⟩|exact⟨_,a0y hb (by assumption) (by assumption),_,by assumption,rfl,rfl⟩|exact⟨_,a0z hb (by assumption) (by assumption),_,by assumption,rfl,rfl⟩
theorem a1R (w:Value) (d:m6) (hd:H6 d):F5 gl prog 54 [dk w] [.ob w d] (fun r Hs=>∃ v:Int,0≤v∧v≤67108864∧∃ d',H6 d'∧r = .v v∧Hs = [.ob w d']):=by
 refine F5.Q4 func54 rfl (by kernel_rfl) 25 rfl rfl _ rfl _ rfl fun C hC hG => ?_
 refine .q 8 hG ?_
 refine .h (.C6 hG (G1 _ _ _ (by first|assumption|exact x9 _) (by omega) (by omega)) .z (.cons (.t a8) (.cons (.i a8) .nil)) (by rintro _ _ ⟨_,_,_,_,_,_,rfl⟩;exact⟨_,rfl⟩) fun r4 B4 hr4 => ?_)
 obtain⟨v4,d4,h04,h14,hd4,rfl,hB⟩:=hr4
 cases hB
 refine .q 8 hG ⟨fun hc5 => ?_,fun hc5 => ?_⟩
 ·refine .q 3 hG ?_
  refine .h (.C6 hG (G1 _ _ _ (by first|assumption|exact x9 _) (by omega) (by omega)) .z (.cons (.t a8) (.cons (.i a8) .nil)) (by rintro _ _ ⟨_,_,_,_,_,_,rfl⟩;exact⟨_,rfl⟩) fun r8 B8 hr8 => ?_)
  obtain⟨v8,d8,h08,h18,hd8,rfl,hB⟩:=hr8
  cases hB
  refine .q 3 hG ?_
  refine .e1 a8 a8 ?_
  refine⟨_,.cons .z (.nil),?_⟩
  exact⟨_,by omega,by omega,_,by assumption,rfl,rfl⟩
 ·refine .q 6 hG ⟨fun hc9 => ?_,fun hc9 => ?_⟩
  ·refine .q 3 hG ?_
   refine .h (.C6 hG (G1 _ _ _ (by first|assumption|exact x9 _) (by omega) (by omega)) .z (.cons (.t a8) (.cons (.i a8) .nil)) (by rintro _ _ ⟨_,_,_,_,_,_,rfl⟩;exact⟨_,rfl⟩) fun r12 B12 hr12 => ?_)
   obtain⟨v12,d12,h012,h112,hd12,rfl,hB⟩:=hr12
   cases hB
   refine .p (.mul (.t a8) (.i a8) (by omega) (by omega) ?_)
   refine .q 1 hG ?_
   refine .h (.C6 hG (G1 _ _ _ (by first|assumption|exact x9 _) (by omega) (by omega)) .z (.cons (.t a8) (.cons (.i a8) .nil)) (by rintro _ _ ⟨_,_,_,_,_,_,rfl⟩;exact⟨_,rfl⟩) fun r15 B15 hr15 => ?_)
   obtain⟨v15,d15,h015,h115,hd15,rfl,hB⟩:=hr15
   cases hB
   refine .ad (by omega) (by omega) (.p (.a99 (.t a8) (.i a8) ?_))
   refine .q 3 hG ?_
   refine .e1 a8 a8 ?_
   refine⟨_,.cons .z (.nil),?_⟩
   exact⟨_,by omega,by omega,_,by assumption,rfl,rfl⟩
  ·refine .q 6 hG ⟨fun hc18 => ?_,fun hc18 => ?_⟩
   ·refine .q 3 hG ?_
    refine .h (.C6 hG (G1 _ _ _ (by first|assumption|exact x9 _) (by omega) (by omega)) .z (.cons (.t a8) (.cons (.i a8) .nil)) (by rintro _ _ ⟨_,_,_,_,_,_,rfl⟩;exact⟨_,rfl⟩) fun r21 B21 hr21 => ?_)
    obtain⟨v21,d21,h021,h121,hd21,rfl,hB⟩:=hr21
    cases hB
    refine .sb (by omega) (by omega) ?_
    refine .q 3 hG ?_
    refine .e1 a8 a8 ?_
    refine⟨_,.cons .z (.nil),?_⟩
    exact⟨_,by omega,by omega,_,by assumption,rfl,rfl⟩
   ·refine .q 4 hG ?_
    refine .h (.C6 hG (G1 _ _ _ (by first|assumption|exact x9 _) (by omega) (by omega)) .z (.cons (.t a8) (.cons (.i a8) .nil)) (by rintro _ _ ⟨_,_,_,_,_,_,rfl⟩;exact⟨_,rfl⟩) fun r24 B24 hr24 => ?_)
    obtain⟨v24,d24,h024,h124,hd24,rfl,hB⟩:=hr24
    cases hB
    refine .q 3 hG ?_
    refine .e1 a8 a8 ?_
    refine⟨_,.cons .z (.nil),?_⟩
    exact⟨_,by omega,by omega,_,by assumption,rfl,rfl⟩
theorem b4h (w:Value) (d:m6) (hd:H6 d):F5 gl prog 55 [dk w] [.ob w d] (fun r Hs=>∃ s:Str,T9 s=true∧∃ d',H6 d'∧r = .v s∧Hs = [.ob w d']):=by
 have hn:=W6 (d:=d) (n:=8) (by decide)
 refine F5.jn func55 (by kernel_rfl) 8 rfl fun C hC hG => ?_
 refine .q 2 hG ?_
 refine .p (.assign (.s [] (by decide) (by decide)) ?_)
 refine .q 3 hG ?_
 refine .h (.buildSlice (α:=Str) ty9 underlying71 (.cons (.s [97] (by decide) (by decide)) (.cons (.s [98] (by decide) (by decide)) (.cons (.s [97,110,110] (by decide) (by decide)) (.cons (.s [98,111,98] (by decide) (by decide)) (.cons (.s [99,105,100] (by decide) (by decide)) (.cons (.s [122,111,101] (by decide) (by decide)) (.cons (.s [97,97] (by decide) (by decide)) (.cons (.s [97,98,99,100,101,102,103,104,105,106,107,108,109,110,111,112] (by decide) (by decide)) .nil)))))))) a8 (by decide) fun b3 => ?_)
 refine .q 1 hG ?_
 refine .h (.C6 hG (a3i _ _ _ hd (by omega) (by omega)) .z1 (.cons (.t a8) (.cons (.i a8) .nil)) (by rintro _ _ ⟨_,rfl⟩;exact⟨_,rfl⟩) fun r5 B5 hr5 => ?_)
 obtain⟨rfl,hB⟩:=hr5
 cases hB
 refine .p (.X3 ty9 underlying71 a8 .z (.t a8) (by omega) (by simp<;>omega) (.p (.b3z ty9 (.t a8) .z (by simp<;>omega) ?_)))
 refine .q 2 hG ?_
 refine .drop ?_
 refine .q 1 hG ?_
 refine .e1 a8 a8 ?_
 refine⟨_,?_,_,R5 hd,a8,a8⟩
 refine(show ∀ s∈_,T9 s=true from ?_) _ (List.getElem_mem _)
 decide
theorem E8 {k:Int} {m:UInt64} (hk:k=1∨k=2∨k=3) (h:a1e m (G6 k)=true):A7 ⟨k,m,0,0,⟨[]⟩,0⟩=true:=by
 unfold A7;rw [if_pos hk];dsimp only;rw [h];simp
theorem I4 {a b:Int} (h0:0≤a) (h1:a≤b) (h2:b≤67108864):A7 ⟨4,0,a,b,⟨[]⟩,0⟩=true:=by
 unfold A7;simp [h0,h1,h2]
theorem K8 {a b:Int} (h0:0≤a) (h1:a < 1440) (h2:0≤b) (h3:b < 1440):A7 ⟨5,0,a,b,⟨[]⟩,0⟩=true:=by
 unfold A7;simp [h0,h1,h2,h3]
theorem Q8 {s:Str} (h:T9 s=true):A7 ⟨6,0,0,0,s,0⟩=true:=by unfold A7;simp [h]
theorem L9 {n:Int} (h0:0≤n) (h1:n≤1000000):A7 ⟨7,0,0,0,⟨[]⟩,n⟩=true:=by unfold A7;simp [h0,h1]
theorem R7 (w:Value) (d:m6) (b8w:Bool) (hd:H6 d):F5 gl prog 34 [dk w,.v b8w] [.ob w d] (fun r Hs=>∃ p:Pred,A7 p=true∧(b8w=false→p.Kind≠7)∧∃ d',H6 d'∧r = .v p∧Hs = [.ob w d']):=by
 refine F5.Q4 func34 rfl (by kernel_rfl) 81 rfl rfl _ rfl _ rfl fun C hC hG => ?_
 refine .q 3 hG fun b4 => ?_
 refine .q 4 hG ?_
 refine .h (.C6 hG (a6v _ _ _ _ (by first|assumption|exact x9 _) (by omega) (by omega) (by omega)) .z1 (.cons (.t a8) (.cons (.i a8) (.cons (.i a8) .nil))) (by rintro _ _ ⟨_,_,_,_,_,_,rfl⟩;exact⟨_,rfl⟩) fun r9 B9 hr9 => ?_)
 obtain⟨v9,d9,h09,h19,hd9,rfl,hB⟩:=hr9
 cases hB
 refine .p (.bS1 j4.l0 a8 Q5 a7Z (fun c0=>(⟨c0,0,0,0,⟨[]⟩,0⟩:j4)) (fun _=>a8) a8 a8 (.t a8) ?_)
 refine .q 1 hG fun b5 => ?_
 refine .q 13 hG ?_
 refine .cond (.t a8) (fun hc17 => ?_) (fun hc17 => ?_)
 ·refine .q 16 hG ?_
  refine .M1 (.t rfl) (fun hc21=>(by exfalso;exact absurd hc21 (show ¬(4:Int)=1 by decide))) (fun hc21 => ?_)
  refine .q 5 hG ?_
  refine .M1 (.t rfl) (fun hc26=>(by exfalso;exact absurd hc26 (show ¬(4:Int)=2 by decide))) (fun hc26 => ?_)
  refine .q 5 hG ?_
  refine .M1 (.t rfl) (fun hc31=>(by exfalso;exact absurd hc31 (show ¬(4:Int)=3 by decide))) (fun hc31 => ?_)
  refine .q 5 hG ?_
  refine .M1 (.t a8) (fun hc36 => ?_) (fun hc36=>(by exfalso;exact hc36 rfl))
  refine .q 3 hG ?_
  refine .h (.C6 hG (a1R _ _ (by assumption)) .z2 (.cons (.t a8) .nil) (by rintro _ _ ⟨_,_,_,_,_,_,rfl⟩;exact⟨_,rfl⟩) fun r39 B39 hr39 => ?_)
  obtain⟨v39,h039,h139,d39,hd39,rfl,hB⟩:=hr39
  cases hB
  refine .q 1 hG ?_
  refine .h (.C6 hG (a1R _ _ (by assumption)) .z2 (.cons (.t a8) .nil) (by rintro _ _ ⟨_,_,_,_,_,_,rfl⟩;exact⟨_,rfl⟩) fun r41 B41 hr41 => ?_)
  obtain⟨v41,h041,h141,d41,hd41,rfl,hB⟩:=hr41
  cases hB
  refine .q 6 hG ?_
  refine .p (.a99 (.t a8) (.t a8) ?_)
  refine .q 2 hG ?_
  refine .p (.b5Y (.t a8) (.t a8) ?_)
  refine .q 11 hG ?_
  refine⟨_,.r1 a8 (.cell Q5 a8 .z1),?_⟩
  refine⟨_,.cons .z2 (.nil),?_⟩
  first|(exfalso;(try dsimp only at *);omega)|exact⟨⟨4,0,min v39 v41,max v39 v41,⟨[]⟩,0⟩,I4 (by omega) (by omega) (by omega),fun _=>(show(4:Int)≠7 by decide),_,by assumption,rfl,rfl⟩|(obtain rfl:v9=1:=(by assumption);exact⟨_,E8 (Or.inl rfl) (by assumption),fun _=>(show(1:Int)≠7 by decide),_,by assumption,rfl,rfl⟩)|(obtain rfl:v9=2:=(by assumption);exact⟨_,E8 (Or.inr (Or.inl rfl)) (by assumption),fun _=>(show(2:Int)≠7 by decide),_,by assumption,rfl,rfl⟩)|(obtain rfl:v9=3:=(by assumption);exact⟨_,E8 (Or.inr (Or.inr rfl)) (by assumption),fun _=>(show(3:Int)≠7 by decide),_,by assumption,rfl,rfl⟩)|(obtain rfl:v9=4:=(by assumption);exact⟨⟨4,0,min v39 v41,max v39 v41,⟨[]⟩,0⟩,I4 (by omega) (by omega) (by omega),fun _=>(show(4:Int)≠7 by decide),_,by assumption,rfl,rfl⟩)|(obtain rfl:v9=5:=(by assumption);exact⟨⟨5,0,v53,v55,⟨[]⟩,0⟩,K8 (by omega) (by omega) (by omega) (by omega),fun _=>(show(5:Int)≠7 by decide),_,by assumption,rfl,rfl⟩)|(obtain rfl:v9=5:=(by assumption);exact⟨⟨5,0,v53,(v53+v64+1440 - 1) % 1440,⟨[]⟩,0⟩,K8 (by omega) (by omega) (by omega) (by omega),fun _=>(show(5:Int)≠7 by decide),_,by assumption,rfl,rfl⟩)|(obtain rfl:v9=6:=(by assumption);exact⟨_,Q8 (by assumption),fun _=>(show(6:Int)≠7 by decide),_,by assumption,rfl,rfl⟩)|(obtain rfl:v9=7:=(by assumption);exact⟨⟨7,0,0,0,⟨[]⟩,v78⟩,L9 (by omega) (by omega),fun h=>(by subst h;simp at hc17),_,by assumption,rfl,rfl⟩)
 ·refine .q 14 hG ⟨fun hc21 => ?_,fun hc21 => ?_⟩
  ·refine .q 2 hG ?_
   refine .h (.C6 hG (a4P _ _ _ (by assumption) (by decide)) .z2 (.cons (.t a8) (.cons (.i a8) .nil)) (by rintro _ _ ⟨_,_,_,_,_,rfl⟩;exact⟨_,rfl⟩) fun r24 B24 hr24 => ?_)
   obtain⟨m24,hm24,d24,hd24,rfl,hB⟩:=hr24
   cases hB
   refine .q 9 hG ?_
   refine⟨_,.r1 a8 (.cell Q5 a8 .z1),?_⟩
   refine⟨_,.cons .z2 (.nil),?_⟩
   first|(exfalso;(try dsimp only at *);omega)|exact⟨⟨4,0,min v39 v41,max v39 v41,⟨[]⟩,0⟩,I4 (by omega) (by omega) (by omega),fun _=>(show(4:Int)≠7 by decide),_,by assumption,rfl,rfl⟩|(obtain rfl:v9=1:=(by assumption);exact⟨_,E8 (Or.inl rfl) (by assumption),fun _=>(show(1:Int)≠7 by decide),_,by assumption,rfl,rfl⟩)|(obtain rfl:v9=2:=(by assumption);exact⟨_,E8 (Or.inr (Or.inl rfl)) (by assumption),fun _=>(show(2:Int)≠7 by decide),_,by assumption,rfl,rfl⟩)|(obtain rfl:v9=3:=(by assumption);exact⟨_,E8 (Or.inr (Or.inr rfl)) (by assumption),fun _=>(show(3:Int)≠7 by decide),_,by assumption,rfl,rfl⟩)|(obtain rfl:v9=4:=(by assumption);exact⟨⟨4,0,min v39 v41,max v39 v41,⟨[]⟩,0⟩,I4 (by omega) (by omega) (by omega),fun _=>(show(4:Int)≠7 by decide),_,by assumption,rfl,rfl⟩)|(obtain rfl:v9=5:=(by assumption);exact⟨⟨5,0,v53,v55,⟨[]⟩,0⟩,K8 (by omega) (by omega) (by omega) (by omega),fun _=>(show(5:Int)≠7 by decide),_,by assumption,rfl,rfl⟩)|(obtain rfl:v9=5:=(by assumption);exact⟨⟨5,0,v53,(v53+v64+1440 - 1) % 1440,⟨[]⟩,0⟩,K8 (by omega) (by omega) (by omega) (by omega),fun _=>(show(5:Int)≠7 by decide),_,by assumption,rfl,rfl⟩)|(obtain rfl:v9=6:=(by assumption);exact⟨_,Q8 (by assumption),fun _=>(show(6:Int)≠7 by decide),_,by assumption,rfl,rfl⟩)|(obtain rfl:v9=7:=(by assumption);exact⟨⟨7,0,0,0,⟨[]⟩,v78⟩,L9 (by omega) (by omega),fun h=>(by subst h;simp at hc17),_,by assumption,rfl,rfl⟩)
  ·refine .q 6 hG ⟨fun hc26 => ?_,fun hc26 => ?_⟩
   ·refine .q 2 hG ?_
    refine .h (.C6 hG (a4P _ _ _ (by assumption) (by decide)) .z2 (.cons (.t a8) (.cons (.i a8) .nil)) (by rintro _ _ ⟨_,_,_,_,_,rfl⟩;exact⟨_,rfl⟩) fun r29 B29 hr29 => ?_)
    obtain⟨m29,hm29,d29,hd29,rfl,hB⟩:=hr29
    cases hB
    refine .q 9 hG ?_
    refine⟨_,.r1 a8 (.cell Q5 a8 .z1),?_⟩
    refine⟨_,.cons .z2 (.nil),?_⟩
    first|(exfalso;(try dsimp only at *);omega)|exact⟨⟨4,0,min v39 v41,max v39 v41,⟨[]⟩,0⟩,I4 (by omega) (by omega) (by omega),fun _=>(show(4:Int)≠7 by decide),_,by assumption,rfl,rfl⟩|(obtain rfl:v9=1:=(by assumption);exact⟨_,E8 (Or.inl rfl) (by assumption),fun _=>(show(1:Int)≠7 by decide),_,by assumption,rfl,rfl⟩)|(obtain rfl:v9=2:=(by assumption);exact⟨_,E8 (Or.inr (Or.inl rfl)) (by assumption),fun _=>(show(2:Int)≠7 by decide),_,by assumption,rfl,rfl⟩)|(obtain rfl:v9=3:=(by assumption);exact⟨_,E8 (Or.inr (Or.inr rfl)) (by assumption),fun _=>(show(3:Int)≠7 by decide),_,by assumption,rfl,rfl⟩)|(obtain rfl:v9=4:=(by assumption);exact⟨⟨4,0,min v39 v41,max v39 v41,⟨[]⟩,0⟩,I4 (by omega) (by omega) (by omega),fun _=>(show(4:Int)≠7 by decide),_,by assumption,rfl,rfl⟩)|(obtain rfl:v9=5:=(by assumption);exact⟨⟨5,0,v53,v55,⟨[]⟩,0⟩,K8 (by omega) (by omega) (by omega) (by omega),fun _=>(show(5:Int)≠7 by decide),_,by assumption,rfl,rfl⟩)|(obtain rfl:v9=5:=(by assumption);exact⟨⟨5,0,v53,(v53+v64+1440 - 1) % 1440,⟨[]⟩,0⟩,K8 (by omega) (by omega) (by omega) (by omega),fun _=>(show(5:Int)≠7 by decide),_,by assumption,rfl,rfl⟩)|(obtain rfl:v9=6:=(by assumption);exact⟨_,Q8 (by assumption),fun _=>(show(6:Int)≠7 by decide),_,by assumption,rfl,rfl⟩)|(obtain rfl:v9=7:=(by assumption);exact⟨⟨7,0,0,0,⟨[]⟩,v78⟩,L9 (by omega) (by omega),fun h=>(by subst h;simp at hc17),_,by assumption,rfl,rfl⟩)
   ·refine .q 6 hG ⟨fun hc31 => ?_,fun hc31 => ?_⟩
    ·refine .q 2 hG ?_
     refine .h (.C6 hG (a4P _ _ _ (by assumption) (by decide)) .z2 (.cons (.t a8) (.cons (.i a8) .nil)) (by rintro _ _ ⟨_,_,_,_,_,rfl⟩;exact⟨_,rfl⟩) fun r34 B34 hr34 => ?_)
     obtain⟨m34,hm34,d34,hd34,rfl,hB⟩:=hr34
     cases hB
     refine .q 9 hG ?_
     refine⟨_,.r1 a8 (.cell Q5 a8 .z1),?_⟩
     refine⟨_,.cons .z2 (.nil),?_⟩
     first|(exfalso;(try dsimp only at *);omega)|exact⟨⟨4,0,min v39 v41,max v39 v41,⟨[]⟩,0⟩,I4 (by omega) (by omega) (by omega),fun _=>(show(4:Int)≠7 by decide),_,by assumption,rfl,rfl⟩|(obtain rfl:v9=1:=(by assumption);exact⟨_,E8 (Or.inl rfl) (by assumption),fun _=>(show(1:Int)≠7 by decide),_,by assumption,rfl,rfl⟩)|(obtain rfl:v9=2:=(by assumption);exact⟨_,E8 (Or.inr (Or.inl rfl)) (by assumption),fun _=>(show(2:Int)≠7 by decide),_,by assumption,rfl,rfl⟩)|(obtain rfl:v9=3:=(by assumption);exact⟨_,E8 (Or.inr (Or.inr rfl)) (by assumption),fun _=>(show(3:Int)≠7 by decide),_,by assumption,rfl,rfl⟩)|(obtain rfl:v9=4:=(by assumption);exact⟨⟨4,0,min v39 v41,max v39 v41,⟨[]⟩,0⟩,I4 (by omega) (by omega) (by omega),fun _=>(show(4:Int)≠7 by decide),_,by assumption,rfl,rfl⟩)|(obtain rfl:v9=5:=(by assumption);exact⟨⟨5,0,v53,v55,⟨[]⟩,0⟩,K8 (by omega) (by omega) (by omega) (by omega),fun _=>(show(5:Int)≠7 by decide),_,by assumption,rfl,rfl⟩)|(obtain rfl:v9=5:=(by assumption);exact⟨⟨5,0,v53,(v53+v64+1440 - 1) % 1440,⟨[]⟩,0⟩,K8 (by omega) (by omega) (by omega) (by omega),fun _=>(show(5:Int)≠7 by decide),_,by assumption,rfl,rfl⟩)|(obtain rfl:v9=6:=(by assumption);exact⟨_,Q8 (by assumption),fun _=>(show(6:Int)≠7 by decide),_,by assumption,rfl,rfl⟩)|(obtain rfl:v9=7:=(by assumption);exact⟨⟨7,0,0,0,⟨[]⟩,v78⟩,L9 (by omega) (by omega),fun h=>(by subst h;simp at hc17),_,by assumption,rfl,rfl⟩)
    ·refine .q 6 hG ⟨fun hc36 => ?_,fun hc36 => ?_⟩
     ·refine .q 3 hG ?_
      refine .h (.C6 hG (a1R _ _ (by assumption)) .z2 (.cons (.t a8) .nil) (by rintro _ _ ⟨_,_,_,_,_,_,rfl⟩;exact⟨_,rfl⟩) fun r39 B39 hr39 => ?_)
      obtain⟨v39,h039,h139,d39,hd39,rfl,hB⟩:=hr39
      cases hB
      refine .q 1 hG ?_
      refine .h (.C6 hG (a1R _ _ (by assumption)) .z2 (.cons (.t a8) .nil) (by rintro _ _ ⟨_,_,_,_,_,_,rfl⟩;exact⟨_,rfl⟩) fun r41 B41 hr41 => ?_)
      obtain⟨v41,h041,h141,d41,hd41,rfl,hB⟩:=hr41
      cases hB
      refine .q 6 hG ?_
      refine .p (.a99 (.t a8) (.t a8) ?_)
      refine .q 2 hG ?_
      refine .p (.b5Y (.t a8) (.t a8) ?_)
      refine .q 11 hG ?_
      refine⟨_,.r1 a8 (.cell Q5 a8 .z1),?_⟩
      refine⟨_,.cons .z2 (.nil),?_⟩
      first|(exfalso;(try dsimp only at *);omega)|exact⟨⟨4,0,min v39 v41,max v39 v41,⟨[]⟩,0⟩,I4 (by omega) (by omega) (by omega),fun _=>(show(4:Int)≠7 by decide),_,by assumption,rfl,rfl⟩|(obtain rfl:v9=1:=(by assumption);exact⟨_,E8 (Or.inl rfl) (by assumption),fun _=>(show(1:Int)≠7 by decide),_,by assumption,rfl,rfl⟩)|(obtain rfl:v9=2:=(by assumption);exact⟨_,E8 (Or.inr (Or.inl rfl)) (by assumption),fun _=>(show(2:Int)≠7 by decide),_,by assumption,rfl,rfl⟩)|(obtain rfl:v9=3:=(by assumption);exact⟨_,E8 (Or.inr (Or.inr rfl)) (by assumption),fun _=>(show(3:Int)≠7 by decide),_,by assumption,rfl,rfl⟩)|(obtain rfl:v9=4:=(by assumption);exact⟨⟨4,0,min v39 v41,max v39 v41,⟨[]⟩,0⟩,I4 (by omega) (by omega) (by omega),fun _=>(show(4:Int)≠7 by decide),_,by assumption,rfl,rfl⟩)|(obtain rfl:v9=5:=(by assumption);exact⟨⟨5,0,v53,v55,⟨[]⟩,0⟩,K8 (by omega) (by omega) (by omega) (by omega),fun _=>(show(5:Int)≠7 by decide),_,by assumption,rfl,rfl⟩)|(obtain rfl:v9=5:=(by assumption);exact⟨⟨5,0,v53,(v53+v64+1440 - 1) % 1440,⟨[]⟩,0⟩,K8 (by omega) (by omega) (by omega) (by omega),fun _=>(show(5:Int)≠7 by decide),_,by assumption,rfl,rfl⟩)|(obtain rfl:v9=6:=(by assumption);exact⟨_,Q8 (by assumption),fun _=>(show(6:Int)≠7 by decide),_,by assumption,rfl,rfl⟩)|(obtain rfl:v9=7:=(by assumption);exact⟨⟨7,0,0,0,⟨[]⟩,v78⟩,L9 (by omega) (by omega),fun h=>(by subst h;simp at hc17),_,by assumption,rfl,rfl⟩)
     ·refine .q 6 hG ⟨fun hc50 => ?_,fun hc50 => ?_⟩
      ·refine .q 3 hG ?_
       refine .h (.C6 hG (G1 _ _ _ (by first|assumption|exact x9 _) (by omega) (by omega)) .z2 (.cons (.t a8) (.cons (.i a8) .nil)) (by rintro _ _ ⟨_,_,_,_,_,_,rfl⟩;exact⟨_,rfl⟩) fun r53 B53 hr53 => ?_)
       obtain⟨v53,d53,h053,h153,hd53,rfl,hB⟩:=hr53
       cases hB
       refine .q 1 hG ?_
       refine .h (.C6 hG (G1 _ _ _ (by first|assumption|exact x9 _) (by omega) (by omega)) .z2 (.cons (.t a8) (.cons (.i a8) .nil)) (by rintro _ _ ⟨_,_,_,_,_,_,rfl⟩;exact⟨_,rfl⟩) fun r55 B55 hr55 => ?_)
       obtain⟨v55,d55,h055,h155,hd55,rfl,hB⟩:=hr55
       cases hB
       refine .q 8 hG ?_
       refine .h (.C6 hG (G1 _ _ _ (by first|assumption|exact x9 _) (by omega) (by omega)) .z2 (.cons (.t a8) (.cons (.i a8) .nil)) (by rintro _ _ ⟨_,_,_,_,_,_,rfl⟩;exact⟨_,rfl⟩) fun r59 B59 hr59 => ?_)
       obtain⟨v59,d59,h059,h159,hd59,rfl,hB⟩:=hr59
       cases hB
       refine .q 3 hG ⟨fun hc60 => ?_,fun hc60 => ?_⟩
       ·refine .E0 [j1,j1,j0] (by kernel_rfl) 9 [[],[(61,0)],[],[(63,2)],[(62,1),(64,3)],[(65,4)],[(66,5)],[(67,6)],[]] [3,4,5,6,7] a8 (by kernel_rfl) a8 (by kernel_rfl) (by decide) ?_
        refine⟨_,fun H=>j6.B0 j4.l2 M4 a8 (.t a8) a8,?_⟩
        refine⟨_,fun H=>j6.ldF (fun x=>x.M7) R3 (.t a8) (u4.app .z) (fun _=>a8) a8,?_⟩
        refine⟨_,fun H=>j6.move (.t a8) a8,?_⟩
        refine .inl (.inl (.inl (.inl (.inl ?_))))
        refine⟨_,fun H=>j6.B0 j4.l3 M5 a8 (.t a8) a8,?_⟩
        refine⟨⟨([],j2 [c8,c8,_]),a8⟩,?_⟩
        refine A6.C6 hG (G1 _ _ _ (by first|assumption|exact x9 _) (by omega) (by omega)) .z2 (.cons (.t rfl) (.cons (.i rfl) .nil)) (by rintro _ _ ⟨_,_,_,_,_,_,rfl⟩;exact⟨_,rfl⟩) fun r64 B64 hr64 => ?_
        obtain⟨v64,d64,h064,h164,hd64,rfl,hB⟩:=hr64
        cases hB
        refine⟨⟨([],j2 [c8,c8,_]),a8⟩,?_⟩
        refine A6.ofP (j6.add (.t rfl) (.t rfl) (by simp<;>omega) (by simp<;>omega) ?_)
        refine⟨⟨([],j2 [c8,c8,_]),a8⟩,?_⟩
        refine A6.ofP (j6.add (.t rfl) (.i rfl) (by simp<;>omega) (by simp<;>omega) ?_)
        refine⟨⟨([],j2 [c8,c8,_]),a8⟩,?_⟩
        refine A6.ofP (j6.sub (.t rfl) (.i rfl) (by simp<;>omega) (by simp<;>omega) ?_)
        refine⟨⟨([],j2 [c8,c8,_]),a8⟩,?_⟩
        refine A6.ofP (j6.rem (.t rfl) (.i rfl) (by simp<;>omega) (by omega) ?_)
        refine⟨⟨([],j2 [c8,c8,_]),a8⟩,?_⟩
        show D6 _ _ _ _ _ [_] ((69,_)::(68,_)::(67,_)::(66,_)::(65,_)::(64,_)::(63,_)::(62,_)::(61,_)::_) _
        refine .q 8 hG ?_
        refine⟨_,.r1 a8 (.cell Q5 a8 .z1),?_⟩
        refine⟨_,.cons .z2 (.nil),?_⟩
        first|(exfalso;(try dsimp only at *);omega)|exact⟨⟨4,0,min v39 v41,max v39 v41,⟨[]⟩,0⟩,I4 (by omega) (by omega) (by omega),fun _=>(show(4:Int)≠7 by decide),_,by assumption,rfl,rfl⟩|(obtain rfl:v9=1:=(by assumption);exact⟨_,E8 (Or.inl rfl) (by assumption),fun _=>(show(1:Int)≠7 by decide),_,by assumption,rfl,rfl⟩)|(obtain rfl:v9=2:=(by assumption);exact⟨_,E8 (Or.inr (Or.inl rfl)) (by assumption),fun _=>(show(2:Int)≠7 by decide),_,by assumption,rfl,rfl⟩)|(obtain rfl:v9=3:=(by assumption);exact⟨_,E8 (Or.inr (Or.inr rfl)) (by assumption),fun _=>(show(3:Int)≠7 by decide),_,by assumption,rfl,rfl⟩)|(obtain rfl:v9=4:=(by assumption);exact⟨⟨4,0,min v39 v41,max v39 v41,⟨[]⟩,0⟩,I4 (by omega) (by omega) (by omega),fun _=>(show(4:Int)≠7 by decide),_,by assumption,rfl,rfl⟩)|(obtain rfl:v9=5:=(by assumption);exact⟨⟨5,0,v53,v55,⟨[]⟩,0⟩,K8 (by omega) (by omega) (by omega) (by omega),fun _=>(show(5:Int)≠7 by decide),_,by assumption,rfl,rfl⟩)|(obtain rfl:v9=5:=(by assumption);exact⟨⟨5,0,v53,(v53+v64+1440 - 1) % 1440,⟨[]⟩,0⟩,K8 (by omega) (by omega) (by omega) (by omega),fun _=>(show(5:Int)≠7 by decide),_,by assumption,rfl,rfl⟩)|(obtain rfl:v9=6:=(by assumption);exact⟨_,Q8 (by assumption),fun _=>(show(6:Int)≠7 by decide),_,by assumption,rfl,rfl⟩)|(obtain rfl:v9=7:=(by assumption);exact⟨⟨7,0,0,0,⟨[]⟩,v78⟩,L9 (by omega) (by omega),fun h=>(by subst h;simp at hc17),_,by assumption,rfl,rfl⟩)
       ·refine .q 7 hG ?_
        refine⟨_,.r1 a8 (.cell Q5 a8 .z1),?_⟩
        refine⟨_,.cons .z2 (.nil),?_⟩
        first|(exfalso;(try dsimp only at *);omega)|exact⟨⟨4,0,min v39 v41,max v39 v41,⟨[]⟩,0⟩,I4 (by omega) (by omega) (by omega),fun _=>(show(4:Int)≠7 by decide),_,by assumption,rfl,rfl⟩|(obtain rfl:v9=1:=(by assumption);exact⟨_,E8 (Or.inl rfl) (by assumption),fun _=>(show(1:Int)≠7 by decide),_,by assumption,rfl,rfl⟩)|(obtain rfl:v9=2:=(by assumption);exact⟨_,E8 (Or.inr (Or.inl rfl)) (by assumption),fun _=>(show(2:Int)≠7 by decide),_,by assumption,rfl,rfl⟩)|(obtain rfl:v9=3:=(by assumption);exact⟨_,E8 (Or.inr (Or.inr rfl)) (by assumption),fun _=>(show(3:Int)≠7 by decide),_,by assumption,rfl,rfl⟩)|(obtain rfl:v9=4:=(by assumption);exact⟨⟨4,0,min v39 v41,max v39 v41,⟨[]⟩,0⟩,I4 (by omega) (by omega) (by omega),fun _=>(show(4:Int)≠7 by decide),_,by assumption,rfl,rfl⟩)|(obtain rfl:v9=5:=(by assumption);exact⟨⟨5,0,v53,v55,⟨[]⟩,0⟩,K8 (by omega) (by omega) (by omega) (by omega),fun _=>(show(5:Int)≠7 by decide),_,by assumption,rfl,rfl⟩)|(obtain rfl:v9=5:=(by assumption);exact⟨⟨5,0,v53,(v53+v64+1440 - 1) % 1440,⟨[]⟩,0⟩,K8 (by omega) (by omega) (by omega) (by omega),fun _=>(show(5:Int)≠7 by decide),_,by assumption,rfl,rfl⟩)|(obtain rfl:v9=6:=(by assumption);exact⟨_,Q8 (by assumption),fun _=>(show(6:Int)≠7 by decide),_,by assumption,rfl,rfl⟩)|(obtain rfl:v9=7:=(by assumption);exact⟨⟨7,0,0,0,⟨[]⟩,v78⟩,L9 (by omega) (by omega),fun h=>(by subst h;simp at hc17),_,by assumption,rfl,rfl⟩)
      ·refine .q 6 hG ⟨fun hc70 => ?_,fun hc70 => ?_⟩
       ·refine .q 2 hG ?_
        refine .h (.C6 hG (b4h _ _ (by assumption)) .z2 (.cons (.t a8) .nil) (by rintro _ _ ⟨_,_,_,_,_,rfl⟩;exact⟨_,rfl⟩) fun r73 B73 hr73 => ?_)
        obtain⟨s73,hs73,d73,hd73,rfl,hB⟩:=hr73
        cases hB
        refine .q 9 hG ?_
        refine⟨_,.r1 a8 (.cell Q5 a8 .z1),?_⟩
        refine⟨_,.cons .z2 (.nil),?_⟩
        first|(exfalso;(try dsimp only at *);omega)|exact⟨⟨4,0,min v39 v41,max v39 v41,⟨[]⟩,0⟩,I4 (by omega) (by omega) (by omega),fun _=>(show(4:Int)≠7 by decide),_,by assumption,rfl,rfl⟩|(obtain rfl:v9=1:=(by assumption);exact⟨_,E8 (Or.inl rfl) (by assumption),fun _=>(show(1:Int)≠7 by decide),_,by assumption,rfl,rfl⟩)|(obtain rfl:v9=2:=(by assumption);exact⟨_,E8 (Or.inr (Or.inl rfl)) (by assumption),fun _=>(show(2:Int)≠7 by decide),_,by assumption,rfl,rfl⟩)|(obtain rfl:v9=3:=(by assumption);exact⟨_,E8 (Or.inr (Or.inr rfl)) (by assumption),fun _=>(show(3:Int)≠7 by decide),_,by assumption,rfl,rfl⟩)|(obtain rfl:v9=4:=(by assumption);exact⟨⟨4,0,min v39 v41,max v39 v41,⟨[]⟩,0⟩,I4 (by omega) (by omega) (by omega),fun _=>(show(4:Int)≠7 by decide),_,by assumption,rfl,rfl⟩)|(obtain rfl:v9=5:=(by assumption);exact⟨⟨5,0,v53,v55,⟨[]⟩,0⟩,K8 (by omega) (by omega) (by omega) (by omega),fun _=>(show(5:Int)≠7 by decide),_,by assumption,rfl,rfl⟩)|(obtain rfl:v9=5:=(by assumption);exact⟨⟨5,0,v53,(v53+v64+1440 - 1) % 1440,⟨[]⟩,0⟩,K8 (by omega) (by omega) (by omega) (by omega),fun _=>(show(5:Int)≠7 by decide),_,by assumption,rfl,rfl⟩)|(obtain rfl:v9=6:=(by assumption);exact⟨_,Q8 (by assumption),fun _=>(show(6:Int)≠7 by decide),_,by assumption,rfl,rfl⟩)|(obtain rfl:v9=7:=(by assumption);exact⟨⟨7,0,0,0,⟨[]⟩,v78⟩,L9 (by omega) (by omega),fun h=>(by subst h;simp at hc17),_,by assumption,rfl,rfl⟩)
       ·refine .q 6 hG ⟨fun hc75 => ?_,fun hc75 => ?_⟩
        ·refine .q 2 hG ?_
         refine .h (.C6 hG (c13 _ _ _ (by assumption) (by decide) (by decide)) .z2 (.cons (.t a8) (.cons (.i a8) .nil)) (by rintro _ _ ⟨_,_,_,_,_,_,rfl⟩;exact⟨_,rfl⟩) fun r78 B78 hr78 => ?_)
         obtain⟨v78,h078,h178,d78,hd78,rfl,hB⟩:=hr78
         cases hB
         refine .q 9 hG ?_
         refine⟨_,.r1 a8 (.cell Q5 a8 .z1),?_⟩
         refine⟨_,.cons .z2 (.nil),?_⟩
         first|(exfalso;(try dsimp only at *);omega)|exact⟨⟨4,0,min v39 v41,max v39 v41,⟨[]⟩,0⟩,I4 (by omega) (by omega) (by omega),fun _=>(show(4:Int)≠7 by decide),_,by assumption,rfl,rfl⟩|(obtain rfl:v9=1:=(by assumption);exact⟨_,E8 (Or.inl rfl) (by assumption),fun _=>(show(1:Int)≠7 by decide),_,by assumption,rfl,rfl⟩)|(obtain rfl:v9=2:=(by assumption);exact⟨_,E8 (Or.inr (Or.inl rfl)) (by assumption),fun _=>(show(2:Int)≠7 by decide),_,by assumption,rfl,rfl⟩)|(obtain rfl:v9=3:=(by assumption);exact⟨_,E8 (Or.inr (Or.inr rfl)) (by assumption),fun _=>(show(3:Int)≠7 by decide),_,by assumption,rfl,rfl⟩)|(obtain rfl:v9=4:=(by assumption);exact⟨⟨4,0,min v39 v41,max v39 v41,⟨[]⟩,0⟩,I4 (by omega) (by omega) (by omega),fun _=>(show(4:Int)≠7 by decide),_,by assumption,rfl,rfl⟩)|(obtain rfl:v9=5:=(by assumption);exact⟨⟨5,0,v53,v55,⟨[]⟩,0⟩,K8 (by omega) (by omega) (by omega) (by omega),fun _=>(show(5:Int)≠7 by decide),_,by assumption,rfl,rfl⟩)|(obtain rfl:v9=5:=(by assumption);exact⟨⟨5,0,v53,(v53+v64+1440 - 1) % 1440,⟨[]⟩,0⟩,K8 (by omega) (by omega) (by omega) (by omega),fun _=>(show(5:Int)≠7 by decide),_,by assumption,rfl,rfl⟩)|(obtain rfl:v9=6:=(by assumption);exact⟨_,Q8 (by assumption),fun _=>(show(6:Int)≠7 by decide),_,by assumption,rfl,rfl⟩)|(obtain rfl:v9=7:=(by assumption);exact⟨⟨7,0,0,0,⟨[]⟩,v78⟩,L9 (by omega) (by omega),fun h=>(by subst h;simp at hc17),_,by assumption,rfl,rfl⟩)
        ·refine .q 7 hG ?_
         refine⟨_,.r1 a8 (.cell Q5 a8 .z1),?_⟩
         refine⟨_,.cons .z2 (.nil),?_⟩
         first|(exfalso;(try dsimp only at *);omega)|exact⟨⟨4,0,min v39 v41,max v39 v41,⟨[]⟩,0⟩,I4 (by omega) (by omega) (by omega),fun _=>(show(4:Int)≠7 by decide),_,by assumption,rfl,rfl⟩|(obtain rfl:v9=1:=(by assumption);exact⟨_,E8 (Or.inl rfl) (by assumption),fun _=>(show(1:Int)≠7 by decide),_,by assumption,rfl,rfl⟩)|(obtain rfl:v9=2:=(by assumption);exact⟨_,E8 (Or.inr (Or.inl rfl)) (by assumption),fun _=>(show(2:Int)≠7 by decide),_,by assumption,rfl,rfl⟩)|(obtain rfl:v9=3:=(by assumption);exact⟨_,E8 (Or.inr (Or.inr rfl)) (by assumption),fun _=>(show(3:Int)≠7 by decide),_,by assumption,rfl,rfl⟩)|(obtain rfl:v9=4:=(by assumption);exact⟨⟨4,0,min v39 v41,max v39 v41,⟨[]⟩,0⟩,I4 (by omega) (by omega) (by omega),fun _=>(show(4:Int)≠7 by decide),_,by assumption,rfl,rfl⟩)|(obtain rfl:v9=5:=(by assumption);exact⟨⟨5,0,v53,v55,⟨[]⟩,0⟩,K8 (by omega) (by omega) (by omega) (by omega),fun _=>(show(5:Int)≠7 by decide),_,by assumption,rfl,rfl⟩)|(obtain rfl:v9=5:=(by assumption);exact⟨⟨5,0,v53,(v53+v64+1440 - 1) % 1440,⟨[]⟩,0⟩,K8 (by omega) (by omega) (by omega) (by omega),fun _=>(show(5:Int)≠7 by decide),_,by assumption,rfl,rfl⟩)|(obtain rfl:v9=6:=(by assumption);exact⟨_,Q8 (by assumption),fun _=>(show(6:Int)≠7 by decide),_,by assumption,rfl,rfl⟩)|(obtain rfl:v9=7:=(by assumption);exact⟨⟨7,0,0,0,⟨[]⟩,v78⟩,L9 (by omega) (by omega),fun h=>(by subst h;simp at hc17),_,by assumption,rfl,rfl⟩)
theorem a5C (w:Value) (d:m6) (hd:H6 d):F5 gl prog 33 [dk w] [.ob w d] (fun r Hs=>∃ c:Cav,∃ d',H6 d'∧r = .v c∧Hs = [.ob w d']):=by
 refine F5.Q4 func33 rfl (by kernel_rfl) 20 rfl rfl _ rfl _ rfl fun C hC hG => ?_
 refine .q 3 hG fun b2 => ?_
 refine .q 5 hG ?_
 refine .h (.C6 hG (G1 _ _ _ (by first|assumption|exact x9 _) (by omega) (by omega)) .z1 (.cons (.t a8) (.cons (.i a8) .nil)) (by rintro _ _ ⟨_,_,_,_,_,_,rfl⟩;exact⟨_,rfl⟩) fun r4 B4 hr4 => ?_)
 obtain⟨v4,d4,h04,h14,hd4,rfl,hB⟩:=hr4
 cases hB
 refine .q 3 hG ⟨fun hc5 => ?_,fun hc5 => ?_⟩
 ·refine .q 3 hG ?_
  refine .h (.C6 hG (R7 _ _ _ (by assumption)) .z1 (.cons (.t a8) (.cons .b .nil)) (by rintro _ _ ⟨_,_,_,_,_,_,rfl⟩;exact⟨_,rfl⟩) fun r7 B7 hr7 => ?_)
  obtain⟨p7,hp7,hk7,d7,hd7,rfl,hB⟩:=hr7
  cases hB
  refine .p (.bS1 m9.l1 a8 a0n b9E (fun c1=>(⟨false,c1,0,[],[]⟩:m9)) (fun _=>a8) a8 a8 (.t a8) ?_)
  refine .q 3 hG ?_
  refine⟨_,.r1 a8 (.cell a0n a8 .z),?_⟩
  refine⟨_,.cons .z1 (.nil),?_⟩
  exact⟨_,_,by assumption,rfl,rfl⟩
 ·refine .q 4 hG ?_
  refine .h (.C6 hG (G1 _ _ _ (by first|assumption|exact x9 _) (by omega) (by omega)) .z1 (.cons (.t a8) (.cons (.i a8) .nil)) (by rintro _ _ ⟨_,_,_,_,_,_,rfl⟩;exact⟨_,rfl⟩) fun r10 B10 hr10 => ?_)
  obtain⟨v10,d10,h010,h110,hd10,rfl,hB⟩:=hr10
  cases hB
  refine .q 1 hG ?_
  refine .h (.b8m hG (a9M _ _ _ (by first|assumption|exact x9 _) (by omega) (by omega)) .z1 (.cons (.t a8) (.cons (.i a8) .nil)) (by rintro _ _ ⟨_,_,_,_,_,_,rfl⟩;exact⟨_,_,rfl⟩) fun r12 Bn12 B12 hr12 => ?_)
  obtain⟨u12,l12,hl12,d12,hd12,rfl,hB⟩:=hr12
  cases hB
  show D6 _ _ _ _ _ _ _ ((true,_)::_)
  refine .bs a8 (by decide) fun b13 => ?_
  refine .ap (by simp<;>omega) (by simp<;>omega) fun w14 => ?_
  refine .q 1 hG ?_
  refine .h (.b8m hG (a9M _ _ _ (by first|assumption|exact x9 _) (by omega) (by omega)) .z3 (.cons (.t a8) (.cons (.i a8) .nil)) (by rintro _ _ ⟨_,_,_,_,_,_,rfl⟩;exact⟨_,_,rfl⟩) fun r16 Bn16 B16 hr16 => ?_)
  obtain⟨u16,l16,hl16,d16,hd16,rfl,hB⟩:=hr16
  cases hB
  show D6 _ _ _ _ _ _ _ ((true,_)::_)
  refine .bs a8 (by decide) fun b17 => ?_
  refine .ap (by simp<;>omega) (by simp<;>omega) fun w18 => ?_
  refine .u0 hC .z3 (.as 14 a8 .z3 (.u0 hC .z1 (.as 18 a8 .z1 (.p (.bS4 m9.l0 m9.l2 m9.l3 m9.l4 a8 a0n b9E (fun c0 c2 c3 c4=>(⟨c0,default,c2,c3,c4⟩:m9)) (fun _ _ _ _=>a8) a8 a8 a8 a8 a8 .b (.t a8) (.t a8) (.t a8) ?_)))))
  refine .q 3 hG ?_
  refine⟨_,.r1 a8 (.cell a0n a8 .z4),?_⟩
  refine⟨_,.cons .z5 (.nil),?_⟩
  exact⟨_,_,by assumption,rfl,rfl⟩
abbrev Pass:=x8
abbrev Dis:=p5
abbrev c17:=C3
abbrev b0S:=x7
def a00 {α β:Type} [Inhabited β] (r:D3×α×Int) (f:D3→α→D3×β×Int):D3×β×Int:=if r.2.2=0 then f r.1 r.2.1 else (default,default,r.2.2)
theorem F8 {α β:Type} [Inhabited β] {r:D3×α×Int} (h:r.2.2=0) (f:D3→α→D3×β×Int):a00 r f=f r.1 r.2.1:=if_pos h
theorem Q2 {α β:Type} [Inhabited β] {r:D3×α×Int} (h:¬r.2.2=0) (f:D3→α→D3×β×Int):a00 r f=(default,default,r.2.2):=if_neg h
def a5D (a:D3) (k:Tag) (m:List UInt8):D3×Tag×Int:=a00 (H4 a k m) fun b t=>a00 (H4 b t G2) fun c _=>(c,t,0)
def a7I (a:D3) (root:u7) (n:Int):D3×Pass×Int :=
 if J8 root.Number n=false then (default,default,1) else a00 (a5D a root.Key (X7 n)) fun b t=>(b,⟨root.Number,n,[],t⟩,0)
def a6A (p:Pass) (c:Cav):Bool:=decide (64≤p.j7.length)||(c.K5&&decide (8≤a1g p.j7))
def a4n (a:D3) (p:Pass) (c:Cav):D3×Pass×Int :=
 if H5 c=false then (default,default,5) else if a6A p c then (default,default,2) else
 a00 (a5D a p.Tag (a0e c)) fun b t=>(b,⟨p.C7,p.y7,p.j7 ++ [c],t⟩,0)
def a0K (t:B1):Bool:=decide (0≤t.a3A)&&decide (t.a3A≤t.a6Y)&&decide (t.a6Y≤150)
def a0g (k:Tag) (t:B1):List UInt8:=k.l++J7 t.a3A.toNat++J7 t.a6Y.toNat
def a39 (a:D3) (c:b0S) (t:B1):D3×c17×Int :=
 if (a0K t&&decide (0≤c.F9)&&decide (c.F9≤7))=false then (default,default,1) else
 a00 (Q6 a) fun b k=>a00 (Q7 b c.Key b.G0 (a0g k t)) fun d x=>(d,⟨c.F9,k,x⟩,0)
def b2r (a:D3) (p:Pass) (b:c17):D3×Pass×Int :=
 a00 (H4 a p.Tag (D4 b.j9)) fun a t=>a00 (Q7 a t 0 b.Key.l) fun a x=>a4n a p ⟨true,default,b.F9,b.j9,x⟩
def T6 (a:D3) (d:Dis) (p:Pred):D3×Dis×Int :=
 if A7 p=false then (default,default,5) else if p.Kind=7 then (default,default,6) else if 8≤d.l8.length then (default,default,2) else
 a00 (H4 a d.Tag (S6 p)) fun b t=>(b,⟨d.j9,d.l8 ++ [p],t⟩,0)
def a27 (s:Str):Pred:=⟨6,0,0,0,s,0⟩
def a6a (a:D3) (k:Tag) (t:List UInt8) (s:Str):D3×Dis×Int:=a00 (H4 a k (W0 t)) fun b x=>T6 b ⟨t,[],x⟩ (a27 s)
def a1k (a:D3) (p:Pass):List Pred→D3×Pass×Int
 | []=>(a,p,0)
 | x::l=>a00 (a4n a p ⟨false,x,0,[],[]⟩) fun b q=>a1k b q l
def a2L (a:D3) (d:Dis) (leaf:Tag) (r:Rq):D3×Bnd×Int :=
 if S1 r=false then (default,default,1) else a00 (H4 a d.Tag (U0 leaf r)) fun b t=>(b,⟨d.j9,d.l8,t⟩,0)
def a2M (leaf:Tag) (r:Rq) (a:D3):List Dis→D3×List Bnd×Int
 | []=>(a,[],0)
 | d::l=>a00 (a2L a d leaf r) fun b x=>a00 (a2M leaf r b l) fun c y=>(c,x::y,0)
def b8x (p:Pass) (l:List Dis) (r:Rq):O4:=⟨r,p.C7,p.y7,p.j7,default,l.map fun d=>⟨d.j9,d.l8,default⟩⟩
theorem b5z (b:List UInt8):u1 gl prog 188 [.v b] (fun r=>r = .v (decide (1≤b.length)&&decide (b.length≤1024))):=by
 refine u1.jn func188 (by kernel_rfl) 11 rfl fun C hC hG => ?_
 refine .q 17 hG ?_
 refine .e1 a8 a8 ?_
 refine congrArg AV.v ?_;congr 1<;>(rw [decide_eq_decide];omega)
theorem a8V (c:Cav):u1 gl prog 149 [.v c] (fun r=>r = .v (H5 c)):=by
 refine u1.jn func149 (by kernel_rfl) 50 rfl fun C hC hG => ?_
 refine .q 3 hG fun b1 => ?_
 refine .q 4 hG ?_
 refine .A8 hC .z (.O5 1 a8 .z ?_)
 refine .q 5 hG ?_
 refine .cond (.t a8) (fun hc5 => ?_) (fun hc5 => ?_)
 ·refine .q 4 hG ?_
  refine .k hG (a4L _) ?_
  refine .q 20 hG ?_
  refine .e1 a8 a8 ?_
  refine congrArg AV.v ?_
  unfold H5
  simp_all
 ·refine .q 5 hG ?_
  refine .p (.bS0 (α:=j4) a8 Q5 a7Z (.p (.a2b V9 (by decide) a8 (by kernel_rfl) (.t a8) (.t a8) ?_)))
  refine .q 13 hG ?_
  refine .kg hG (b5z _) ?_
  refine .q 4 hG ?_
  refine .kg hG (b5z _) ?_
  refine .q 4 hG ?_
  refine .e1 a8 a8 ?_
  refine congrArg AV.v ?_
  unfold H5
  simp_all
theorem c3v (n:Nat):decide ((1:Int)≤(n:Int))=decide (1≤n):=decide_eq_decide.2 (by omega)
theorem b5A (n:Nat):decide ((n:Int)≤1024)=decide (n≤1024):=decide_eq_decide.2 (by omega)
theorem a1I {c:Cav} (h:H5 c=true):X5 c=(D9 c,0):=by unfold X5;rw [if_pos h]
theorem a5i {c:Cav} (h:¬H5 c=true):X5 c=([],5):=by unfold X5;rw [if_neg h]
theorem a4Q (c:Cav):u1 gl prog 166 [.v c] (fun r=>r = .v (H5 c)):=by
 refine u1.jn func166 (by kernel_rfl) 64 rfl fun C hC hG => ?_
 refine .q 3 hG fun b1 => ?_
 refine .q 4 hG ?_
 refine .A8 hC .z (.O5 1 a8 .z ?_)
 refine .q 5 hG ?_
 refine .cond (.t a8) (fun hc5 => ?_) (fun hc5 => ?_)
 ·refine .q 4 hG ?_
  refine .k hG (a1f _) ?_
  refine .q 20 hG ?_
  refine .e1 a8 a8 ?_
  refine congrArg AV.v ?_
  unfold H5
  (try simp only [c3v,b5A])
  simp_all [Bool.and_assoc]
 ·refine .q 5 hG ?_
  refine .p (.bS0 (α:=j4) a8 Q5 a7Z (.p (.a2b V9 (by decide) a8 (by kernel_rfl) (.t a8) (.t a8) ?_)))
  refine .q 37 hG ?_
  refine .e1 a8 a8 ?_
  refine congrArg AV.v ?_
  unfold H5
  (try simp only [c3v,b5A])
  simp_all [Bool.and_assoc]
theorem b2s (l:List Cav) (hl:l.length≤1000000):u1 gl prog 59 [.v l] (fun r=>r = .v (a0J l)):=by
 refine u1.jn func59 (by kernel_rfl) 22 rfl fun C hC hG => ?_
 refine .q 6 hG ?_
 refine .p (.assign .raw ?_)
 refine .q 3 hG ?_
 refine .a1z 97 Pred ?_
 refine .q 6 hG ?_
 refine .E3 (α:=Nat×Value) [(6,_),(7,_)] (fun x R=>(3,.raw x.2)::(8,.v (x.1:Int))::R) (fun x => [(true,.own 97 x.2 (a0J (l.take x.1)))]) (fun x=>x.1≤l.length) (fun x=>l.length - x.1) ((0,.slice none 0 0)) (.c2 a8 a8 (.nil _)) ?_ (.c2 a8 a8 (.c2 a8 a8 (.nil _))) (a8) fun x hF => ?_
 ·simp
 obtain⟨k,w⟩:=x
 dsimp only at hF ⊢
 have hfl:(a0J (l.take k)).length≤1000000:=Nat.le_trans (a0X _) (by simp<;>omega)
 refine .q 6 hG ⟨fun hc9 => ?_,fun hc9 => ?_⟩
 ·refine .q 5 hG ?_
  refine .ix (by omega) (by omega) ?_
  refine .q 2 hG fun b5 => ?_
  refine .q 3 hG ?_
  refine .A8 hC .z (.O5 5 a8 .z (.drop ?_))
  refine .q 5 hG ?_
  refine .cond (.t a8) (fun hc14 => ?_) (fun hc14 => ?_)
  ·refine .q 4 hG ?_
   refine .bs a8 (by decide) fun b18 => ?_
   refine .ap (by simp<;>omega) (by simp<;>omega) fun w19 => ?_
   refine .q 1 hG ?_
   refine .drop ?_
   refine .q 2 hG ?_
   refine .ad (by omega) (by omega) ?_
   refine .q 2 hG ?_
   refine⟨(k+1,_),.c2 rfl rfl (.c2 rfl rfl (.nil _)),congrArg (fun q => [(true,E4.own _ _ q)]) (by dsimp only;rw [a2m l k (by omega)];simp_all),?_,by dsimp only;omega⟩
   dsimp only;omega
  ·refine .q 2 hG ?_
   refine .ad (by omega) (by omega) ?_
   refine .q 2 hG ?_
   refine⟨(k+1,_),.c2 rfl rfl (.c2 rfl rfl (.nil _)),congrArg (fun q => [(true,E4.own _ _ q)]) (by dsimp only;rw [a2m l k (by omega)];simp_all),?_,by dsimp only;omega⟩
   dsimp only;omega
 ·refine .q 2 hG ?_
  refine .u0 hC .z (.as 3 a8 .z ?_)
  refine .q 5 hG ?_
  refine .e1 a8 a8 ?_
  refine congrArg AV.v ?_
  rw [List.take_of_length_le (by omega)]
theorem b6A (l:List Cav) (hl:l.length≤1000000):u1 gl prog 26 [.v l] (fun r=>r = .v (a0J l)):=by
 refine u1.jn func26 (by kernel_rfl) 26 rfl fun C hC hG => ?_
 refine .q 6 hG ?_
 refine .p (.assign .raw ?_)
 refine .q 3 hG ?_
 refine .a1z 97 Pred ?_
 refine .q 4 hG ?_
 refine .E3 (α:=Nat×Value) [(0,_)] (fun x R=>(3,.raw x.2)::(4,.v (x.1:Int))::R) (fun x => [(true,.own 97 x.2 (a0J (l.take x.1)))]) (fun x=>x.1≤l.length) (fun x=>l.length - x.1) ((0,.slice none 0 0)) (.cons a8 (.nil _)) ?_ (.c2 a8 a8 (.cons a8 (.nil _))) (a8) fun x hF => ?_
 ·simp
 obtain⟨k,w⟩:=x
 dsimp only at hF ⊢
 have hfl:(a0J (l.take k)).length≤1000000:=Nat.le_trans (a0X _) (by simp<;>omega)
 refine .q 9 hG ⟨fun hc8 => ?_,fun hc8 => ?_⟩
 ·refine .q 7 hG ?_
  refine .ix (by omega) (by omega) ?_
  refine .q 4 hG ?_
  refine .cond (.t a8) (fun hc16 => ?_) (fun hc16 => ?_)
  ·refine .q 4 hG ?_
   refine .ix (by omega) (by omega) ?_
   refine .q 2 hG ?_
   refine .bs a8 (by decide) fun b23 => ?_
   refine .ap (by simp<;>omega) (by simp<;>omega) fun w24 => ?_
   refine .q 1 hG ?_
   refine .drop ?_
   refine .q 3 hG ?_
   refine .ad (by omega) (by omega) ?_
   refine .q 2 hG ?_
   refine⟨(k+1,_),.c2 rfl rfl (.cons rfl (.nil _)),congrArg (fun q => [(true,E4.own _ _ q)]) (by dsimp only;rw [a2m l k (by omega)];simp_all),?_,by dsimp only;omega⟩
   dsimp only;omega
  ·refine .q 3 hG ?_
   refine .ad (by omega) (by omega) ?_
   refine .q 2 hG ?_
   refine⟨(k+1,_),.c2 rfl rfl (.cons rfl (.nil _)),congrArg (fun q => [(true,E4.own _ _ q)]) (by dsimp only;rw [a2m l k (by omega)];simp_all),?_,by dsimp only;omega⟩
   dsimp only;omega
 ·refine .q 2 hG ?_
  refine .u0 hC .z (.as 3 a8 .z ?_)
  refine .q 5 hG ?_
  refine .e1 a8 a8 ?_
  refine congrArg AV.v ?_
  rw [List.take_of_length_le (by omega)]
theorem a9T (l:List Cav) (hl:l.length≤1000000):u1 gl prog 105 [.v l] (fun r=>r = .v (a1g l)):=by
 refine u1.jn func105 (by kernel_rfl) 9 rfl fun C hC hG => ?_
 refine .q 5 hG ?_
 have hfl:=a0X l
 refine .q 4 hG ?_
 refine .k hG (b6A _ hl) ?_
 refine .q 1 hG ?_
 refine .sb (by omega) (by omega) ?_
 refine .q 3 hG ?_
 refine .e1 a8 a8 ?_
 rfl
theorem b2t (l:List Cav):u1 gl prog 106 [.v l] (fun r=>r = .v (l.all H5)):=by
 refine u1.jn func106 (by kernel_rfl) 16 rfl fun C hC hG => ?_
 refine .q 6 hG ?_
 refine .S0 0 a8 fun hl => ?_
 refine .q 4 hG ?_
 refine .E3 (α:=Nat) [(0,_)] (fun k R=>(3,.v (k:Int))::R) (fun k => []) (fun k=>k≤l.length∧(l.take k).all H5=true) (fun k=>l.length - k) (0) (.cons a8 (.nil _)) ?_ (.c2 a8 a8 (.nil _)) (a8) fun k hF => ?_
 ·simp
 obtain⟨h1,h2⟩:=hF
 refine .q 9 hG ⟨fun hc7 => ?_,fun hc7 => ?_⟩
 ·refine .q 7 hG ?_
  refine .ix (by omega) (by omega) ?_
  refine .q 1 hG ?_
  refine .k hG (a4Q _) ?_
  refine .q 2 hG ?_
  refine .cond (.t a8) (fun hc15 => ?_) (fun hc15 => ?_)
  ·refine .q 5 hG ?_
   refine .e1 a8 a8 ?_
   refine congrArg AV.v (Eq.symm ?_)
   rw [b0G H5 l k (by omega)]
   simp_all
  ·refine .q 3 hG ?_
   refine .ad (by omega) (by omega) ?_
   refine .q 2 hG ?_
   refine⟨k+1,.c2 rfl rfl (.nil _),rfl,?_,by omega⟩
   refine⟨by omega,?_⟩;rw [all_succ _ _ _ (by omega),h2];simpa using hc15
 ·refine .q 6 hG ?_
  refine .e1 a8 a8 ?_
  refine congrArg AV.v (Eq.symm ?_)
  rw [List.take_of_length_le (by omega)] at h2
  exact h2
theorem b2u (c:Cav):u1 gl prog 91 [.v c] (fun r=>r = .t2 (.v (X5 c).1) (.v (X5 c).2)):=by
 refine u1.jn func91 (by kernel_rfl) 52 rfl fun C hC hG => ?_
 refine .q 3 hG fun b1 => ?_
 refine .q 5 hG ?_
 refine .A8 hC .z (.O5 1 a8 .z ?_)
 refine .q 2 hG ?_
 refine .k hG (a8V _) ?_
 refine .q 2 hG ?_
 refine .cond (.t a8) (fun hc12 => ?_) (fun hc12 => ?_)
 ·refine .q 6 hG ?_
  refine .e2 a8 a8 a8 ?_
  rw [a5i (by simpa using hc12)]
 ·refine .q 3 hG ?_
  have hco:H5 c=true:=by simpa using hc12
  refine .q 5 hG ?_
  refine .cond (.t a8) (fun hc15 => ?_) (fun hc15 => ?_)
  ·refine .q 4 hG ?_
   refine .k hG (a65 _) ?_
   refine .q 7 hG ?_
   have h15:c.K5=false:=by simpa using hc15
   obtain⟨hpo,-⟩:=a0W hco h15
   have hpl:=H7 (K6 hpo)
   rw [y3 hpo]
   refine .q 1 hG ?_
   refine .bs a8 (by decide) fun b22 => ?_
   refine .q 1 hG ?_
   refine .ap (by simp<;>omega) (by simp<;>omega) fun w24 => ?_
   refine .q 4 hG ?_
   refine .u0 hC .z (.as 2 a8 .z ?_)
   refine .q 1 hG ?_
   refine .e2 a8 a8 a8 ?_
   rw [a1I hco]
   unfold D9
   rw [h15]
   rfl
  ·refine .q 2 hG ?_
   obtain⟨g1,g2,g3,g4,g5,g6,g7⟩:=a0V hco (by simpa using hc15)
   have hn:=B2 (n:=c.F9.toNat) (by omega)
   refine .q 1 hG ?_
   refine .bs a8 (by decide) fun b27=>(.u0 hC .z (.as 27 a8 .z ?_))
   refine .q 2 hG ?_
   refine .p (.o9 hG ((a1B _ _ (by simp) (by omega) (by omega)).b8n) (.cons (.t a8) (.cons (.t a8) .nil)) ?_)
   refine .q 13 hG ?_
   refine .p (.P8 (⟨[_,_],a8⟩:(J0 2 (List UInt8))) c3i c0Y (.cons (l9.idx 0 (by decide)) _ a8 (.t a8) (.cons (l9.idx 1 (by decide)) _ a8 (.t a8) .nil)) a8 ?_)
   refine .q 3 hG ?_
   refine .E3 (α:=Nat×List UInt8) [(37,_)] (fun x R=>(6,.v x.2)::(7,.v (0:Int))::(38,.v (x.1:Int))::R) (Function.const _ _) (fun x=>x.1≤2∧x.2 = [2]++J7 c.F9.toNat++T5 a0w ([c.j9,c.Y0].take x.1)) (fun x=>2 - x.1) ((0,[2]++J7 c.F9.toNat)) (.cons a8 (.nil _)) ?_ (.c2 a8 a8 (.c2 a8 a8 (.nil _))) (a8) fun x hF => ?_
   ·exact⟨Nat.zero_le _,by simp [T5]⟩
   obtain⟨k,y⟩:=x
   obtain⟨h1,h2⟩:=hF
   dsimp only at h1 h2 ⊢
   have hy:y.length≤3000:=(by have h5:=a1F g5;have h7:=a1F g7;have h8:k=0∨k=1∨k=2:=(by omega);rw [h2];rcases h8 with rfl|rfl|rfl<;>simp [T5]<;>omega)
   have hxk:∀ (h:k < [c.j9,c.Y0].length),([c.j9,c.Y0][k]).length≤1024:=(by intro h;have h8:k=0∨k=1:=(by simp at h;omega);rcases h8 with rfl|rfl;exact g5;exact g7)
   refine .q 6 hG ⟨fun hc39 => ?_,fun hc39 => ?_⟩
   ·refine .q 5 hG ?_
    refine .p (.ix c0Y a8 (.t a8) (.t a8) (by omega) (by omega) ?_)
    refine .q 7 hG ?_
    refine .M1 (.t a8) (fun hc42 => ?_) (fun hc42=>(by exfalso;exact hc42 rfl))
    refine .q 3 hG ?_
    refine .p (.o9 hG (b0Q _ _ (by omega) (hxk (by simp<;>omega))) (.cons (.t a8) (.cons (.t a8) .nil)) ?_)
    refine .q 7 hG ?_
    refine .ad (by omega) (by omega) ?_
    refine .q 2 hG ?_
    refine⟨(k+1,_),.c2 rfl rfl (.c2 rfl rfl (.nil _)),rfl,?_,by dsimp only;omega⟩
    refine⟨by omega,?_⟩;rw [a1E a0w _ k (by simp<;>omega),←List.append_assoc,←h2];simp [a0w]
   ·refine .q 2 hG ?_
    skip
    refine .q 7 hG ?_
    refine .e2 a8 a8 a8 ?_
    obtain rfl:k=2:=(by omega)
    rw [a1I hco]
    unfold D9
    rw [if_pos (by simpa using hc15),h2]
    simp [T5,a0w]
theorem a9U (c:Cav):u1 gl prog 167 [.v c] (fun r=>r = .t2 (.v (X5 c).1) (.v (X5 c).2)):=by
 refine u1.jn func167 (by kernel_rfl) 34 rfl fun C hC hG => ?_
 refine .q 3 hG fun b1 => ?_
 refine .q 5 hG ?_
 refine .A8 hC .z (.O5 1 a8 .z ?_)
 refine .q 2 hG ?_
 refine .k hG (a4Q _) ?_
 refine .q 2 hG ?_
 refine .cond (.t a8) (fun hc8 => ?_) (fun hc8 => ?_)
 ·refine .q 6 hG ?_
  refine .e2 a8 a8 a8 ?_
  rw [a5i (by simpa using hc8)]
 ·refine .q 3 hG ?_
  have hco:H5 c=true:=by simpa using hc8
  refine .q 5 hG ?_
  refine .cond (.t a8) (fun hc11 => ?_) (fun hc11 => ?_)
  ·refine .q 4 hG ?_
   refine .k hG (a54 _) ?_
   refine .q 7 hG ?_
   have h11:c.K5=false:=by simpa using hc11
   obtain⟨hpo,-⟩:=a0W hco h11
   have hpl:=H7 (K6 hpo)
   rw [y3 hpo]
   refine .q 1 hG ?_
   refine .bs a8 (by decide) fun b18 => ?_
   refine .q 1 hG ?_
   refine .ap (by simp<;>omega) (by simp<;>omega) fun w20 => ?_
   refine .q 3 hG ?_
   refine .u0 hC .z (.as 2 a8 .z ?_)
   refine .q 1 hG ?_
   refine .e2 a8 a8 a8 ?_
   rw [a1I hco]
   unfold D9
   rw [h11]
   rfl
  ·refine .q 2 hG ?_
   obtain⟨g1,g2,g3,g4,g5,g6,g7⟩:=a0V hco (by simpa using hc11)
   have hn:=B2 (n:=c.F9.toNat) (by omega)
   have hn2:=B2 (n:=c.j9.length) (by omega)
   have hn3:=B2 (n:=c.Y0.length) (by omega)
   refine .a7x (by kernel_rfl) 15 [[],[],[(22,1)],[(23,2)],[(21,0),(24,3)],[],[(26,5)],[(27,6)],[(25,4),(28,7)],[],[(30,9)],[(31,10)],[(29,8),(32,11)],[(33,12)],[]] [0,4,8,12,13] a8 (by kernel_rfl) a8 (by kernel_rfl) (by decide) (.inl ?_)
   refine⟨_,fun H=>j6.A9 m9.l2 (fun x=>x.F9) b7z a8 (fun _=>a8) (.t a8) a8,?_⟩
   refine⟨_,fun H=>j6.G9 R3 (.t a8) a8,?_⟩
   refine⟨_,fun H=>j6.o9 hG (F4 _ (by omega) (by omega)) (.cons (.t a8) .nil) a8,?_⟩
   refine .inl ?_
   refine⟨_,fun H=>j6.A9 m9.l3 (fun x=>x.j9) b3q a8 (fun _=>a8) (.t a8) a8,?_⟩
   refine⟨_,fun H=>j6.G9 a3E (.t a8) a8,?_⟩
   refine⟨_,fun H=>j6.o9 hG (a1d _ (by omega)) (.cons (.t a8) .nil) a8,?_⟩
   refine .inl ?_
   refine⟨_,fun H=>j6.A9 m9.l4 (fun x=>x.Y0) b7A a8 (fun _=>a8) (.t a8) a8,?_⟩
   refine⟨_,fun H=>j6.G9 a3E (.t a8) a8,?_⟩
   refine⟨_,fun H=>j6.o9 hG (a1d _ (by omega)) (.cons (.t a8) .nil) a8,?_⟩
   refine .inl (.inl ?_)
   refine⟨_,fun H=>j6.assign (.i a8) a8,?_⟩
   refine A6.buildSlice (α:=UInt8) ty5 underlying86 (.cons (.u8 2 rfl) .nil) rfl (by decide) fun b21 => ?_
   refine A6.append P4 (.inl ⟨_,underlying86⟩) rfl .z (.v (.t rfl)) (by simp<;>omega) (by simp<;>omega) (fun w25 => ?_) rfl
   refine A6.append P4 (.inl ⟨_,underlying86⟩) rfl .z (.v (.t rfl)) (by simp<;>omega) (by simp<;>omega) (fun w29 => ?_) rfl
   refine A6.append P4 (.inl ⟨_,underlying86⟩) rfl .z (.v (.t rfl)) (by simp<;>omega) (by simp<;>omega) (fun w33 => ?_) rfl
   refine A6.ofP (j6.assign (.t rfl) ?_)
   show D6 _ _ _ _ _ [] ((3,_)::(2,_)::(33,_)::(32,_)::(31,_)::(30,_)::(29,_)::(28,_)::(27,_)::(26,_)::(25,_)::(24,_)::(23,_)::(22,_)::(21,_)::_) _
   refine .q 1 hG ?_
   refine .u0 hC .z (.as 2 a8 .z ?_)
   refine .q 1 hG ?_
   refine .e2 a8 a8 a8 ?_
   rw [a1I hco]
   unfold D9
   rw [if_pos (by simpa using hc11)]
   simp [a0w]
end Go.Proofs.YtmmclghiidoldaaGreatDoor
