/- Plain Lean over any program, and walks of this seat's functions: contracts, each proved once (part 4). -/
import Derived.Test.YtmmclghiidoldaaGreatDoorZ3
set_option maxRecDepth 1000000
set_option linter.unusedVariables false
set_option linter.unusedSimpArgs false
namespace Go.Proofs.YtmmclghiidoldaaGreatDoor
open Go.Fl Go.Ab Go.Mac Go.Sha
abbrev Pred:=j3
def a07 (m:UInt64) (n:Int):Bool:=decide (m≠0)&&(decide (n=64)||decide (m >>> UInt64.ofNat n.toNat=0))
theorem b3y (m:UInt64) (n:Int) (h0:0≤n) (h1:n≤64):u1 gl Tryz.prog 121 [.v m,.v n] (fun r=>r = .v (a07 m n)):=by
 refine u1.intro Tryz.func121 rfl (by kernel_rfl) 17 rfl rfl _ rfl fun C hC hG=>(.sr rfl (.p (.assign .b (.nil (.sr rfl (.mv rfl (.p (.b4E (.t rfl) (.u64 0 rfl) (.mv rfl (.go 7 rfl (.t rfl) (fun hg8 => .move (.t rfl) rfl) (.go 7 rfl (.t rfl) (fun hg9 => .D4 (.q rfl hg9) (.i rfl) rfl) (.goU 7 rfl (.t rfl) (fun hg10 => .move (.q rfl hg10) rfl) (.gn 10 rfl rfl (fun hc11 hg11 => .move (.t rfl) rfl) (.gn 10 rfl rfl (fun hc12 hg12 => .move (.t rfl) rfl) (.gn 10 rfl rfl (fun hc13 hg13 => .b3q (.ou rfl (Bool.and_eq_true_iff.2 ⟨hc13,beq_iff_eq.2 hg13⟩)) (.ou rfl (Bool.and_eq_true_iff.2 ⟨hc13,beq_iff_eq.2 hg13⟩)) (by first|omega|(simp;omega)|(have:=hg13;simp at this;omega)) (by first|omega|(simp;omega)|(have:=hg13;simp at this;omega)) rfl) (.gn 10 rfl rfl (fun hc14 hg14 => .a6c (.ou rfl (Bool.and_eq_true_iff.2 ⟨hc14,beq_iff_eq.2 hg14⟩)) (.u64 0 rfl) rfl) ?_))))))))))))))))
 refine .go 7 a8 (.t a8) (fun hg15 => .E0 (.ou a8 (beq_iff_eq.2 hg15)) (fun hp=>(.ou a8 (Bool.and_eq_true_iff.2 ⟨(beq_iff_eq.2 hg15),beq_iff_eq.2 hp⟩))) a8) (.p (.u0 (.t a8) (fun hp=>(.q a8 hp)) (.ag a8 (.nil (.ret ?_)))))
 refine⟨_,.r1 a8 (.tmp a8),?_⟩
 rfl
theorem a5O (s:Str):u1 gl Tryz.prog 122 [.v s] (fun r=>r = .v (S8 s)):=by
 refine u1.intro Tryz.func122 rfl (by kernel_rfl) 28 rfl rfl _ rfl fun C hC hG=>(.sr rfl (.p (.assign .b (.nil (.seq (.seq (.a9t 0 rfl fun hs=>(.region rfl (.mv rfl (.p (.b1e Tryz.underlying9 (.t rfl) (.p (.lss (.t rfl) (.i rfl) (.mv rfl (.go 7 rfl (.t rfl) (fun hg8 => .move (.t rfl) rfl) (.go 7 rfl (.t rfl) (fun hg9 => .b1e Tryz.underlying9 (.q rfl hg9) rfl) (.go 7 rfl (.t rfl) (fun hg10 => .gtr (.q rfl hg10) (.i rfl) rfl) (.p (.E0 (.t rfl) (fun hp=>(.q rfl hp)) (.nil ?_))))))))))))))))))))
 refine .cond (.t a8) (fun hc11 => ?_) (fun hc11 => ?_)
 ·refine .sr a8 (.p (.assign .b (.nil (.ret ?_))))
  refine⟨_,.r1 a8 (.tmp a8),?_⟩
  refine congrArg AV.v ?_;simp only [Bool.or_eq_true,decide_eq_true_eq] at hc11;unfold S8;rcases hc11 with h|h
  ·rw [decide_eq_false (show ¬1≤s.l.length by omega)];rfl
  ·rw [decide_eq_false (show ¬s.l.length≤16 by omega)];simp
 ·refine .skip (.seq (.sr a8 (.mv a8 (.p (.b1e Tryz.underlying9 (.t a8) (.p (.move (.i a8) (.nil (.block (.F4 (α:=Nat) [(0,_),(13,_)] (fun k R=>(14,.v (k:Int))::R) (fun k => []) (fun k=>k≤s.l.length∧(s.l.take k).all a3X=true) (fun k=>s.l.length - k) (0) (.c2 a8 a8 (.nil _)) ?_ (.c2 a8 a8 (.cons a8 (.nil _))) (a8) fun k hF => ?_))))))))))
  ·simp
  obtain⟨h1,h2⟩:=hF
  refine .sr a8 (.p (.lss (.t a8) (.t a8) (.nil (.seq (.o8 (.t a8) (fun hc15 => ?_) (fun hc15 => ?_))))))
  ·refine .skip (.seq (.block (.sr a8 (.mv a8 (.ag a8 (.nil (.sr a8 (.mv a8 (.mv a8 (.p (.b4F Tryz.underlying9 (.t a8) (.t a8) (by omega) (by omega) (.p (.c10 (.t a8) (.u8 97 a8) (.mv a8 (.go 21 a8 (.t a8) (fun hg22 => .move (.t a8) a8) (.go 21 a8 (.t a8) (fun hg23 => .move (.t a8) a8) (.go 21 a8 (.t a8) (fun hg24 => .b4F Tryz.underlying9 (.q a8 hg24) (.q a8 hg24) (by first|omega|(simp;omega)|(have:=hg24;simp at this;omega)) (by first|omega|(simp;omega)|(have:=hg24;simp at this;omega)) a8) (.go 21 a8 (.t a8) (fun hg25 => .c0Z (.q a8 hg25) (.u8 122 a8) a8) (.p (.E0 (.t a8) (fun hp=>(.q a8 hp)) ?_))))))))))))))))))))
   refine .nil (.cond (.t a8) (fun hc26 => ?_) (fun hc26 => ?_))
   ·refine .sr a8 (.p (.assign .b (.nil (.ret ?_))))
    refine⟨_,.r1 a8 (.tmp a8),?_⟩
    refine congrArg AV.v (Eq.symm ?_);unfold S8;rw [b0r a3X s.l k (by omega),Bool.and_false];unfold a3X;simp only [Bool.or_eq_true,decide_eq_true_eq,Int.toNat_natCast] at hc26;rcases hc26 with h|h
    ·rw [decide_eq_false (UInt8.not_le.2 h)];rfl
    ·rw [decide_eq_false (UInt8.not_le.2 h),Bool.and_false]
   ·refine .skip (.region a8 (.p (.add (.t a8) (.i a8) (by omega) (by omega) (.mv a8 (.nil ?_)))))
    refine⟨k+1,.c2 rfl rfl (.cons rfl (.nil _)),rfl,?_,by omega⟩
    refine⟨by omega,?_⟩;rw [all_succ _ _ _ (by omega),h2];simp only [Bool.or_eq_false_iff,decide_eq_false_iff_not,Int.toNat_natCast] at hc26;unfold a3X;simp only [Bool.true_and,Bool.and_eq_true,decide_eq_true_eq];exact⟨UInt8.not_lt.1 hc26.1,UInt8.not_lt.1 hc26.2⟩
  ·refine .exit (.sr a8 (.p (.assign .b (.nil (.ret ?_)))))
   refine⟨_,.r1 a8 (.tmp a8),?_⟩
   refine congrArg AV.v (Eq.symm ?_);simp only [Bool.or_eq_false_iff,decide_eq_false_iff_not] at hc11;unfold S8;rw [List.take_of_length_le (by omega)] at h2;rw [h2];simp;omega
def G9 (k:Int):Int:=if k=1 then 64 else if k=2 then 32 else 7
def A5 (p:Pred):Bool :=
 if p.Kind=1∨p.Kind=2∨p.Kind=3 then a07 p.Mask (G9 p.Kind)&&decide (p=⟨p.Kind,p.Mask,0,0,⟨[]⟩,0⟩)
 else if p.Kind=4 then decide (0≤p.J8)&&decide (p.J8≤p.To)&&decide (p.To≤67108864)&&decide (p=⟨p.Kind,0,p.J8,p.To,⟨[]⟩,0⟩)
 else if p.Kind=5 then decide (0≤p.J8)&&decide (p.J8 < 1440)&&decide (0≤p.To)&&decide (p.To < 1440)&&decide (p=⟨p.Kind,0,p.J8,p.To,⟨[]⟩,0⟩)
 else if p.Kind=6 then S8 p.Name&&decide (p=⟨p.Kind,0,0,0,p.Name,0⟩)
 else if p.Kind=7 then decide (0≤p.Number)&&decide (p.Number≤1000000)&&decide (p=⟨p.Kind,0,0,0,⟨[]⟩,p.Number⟩)
 else false
theorem a1z:∀ (i:Nat) (h:i < a6j.l.length),0≤a6j.l[i]∧a6j.l[i]≤64:=by decide
theorem S1 (k:Int) (h:k=1∨k=2∨k=3) (h2:k.toNat < a6j.l.length):a6j.l[k.toNat]=G9 k:=by
 rcases h with rfl|rfl|rfl<;>rfl
theorem a4L (p:Pred):u1 gl Tryz.prog 63 [.v p] (fun r=>r = .v (A5 p)):=by
 refine u1.intro Tryz.func63 rfl (by kernel_rfl) 118 rfl rfl _ rfl fun C hC hG=>(.sr rfl (.h (.box (.t rfl) fun b1 => .p (.assign .b (.nil (.seq (.B0 hC .z (.Q5 1 rfl .z (.region rfl (.p (.m0 j3.l0 (fun x=>x.Kind) U8 rfl (fun _=>rfl) (.t rfl) (.p (.x3 D0 (.t rfl) (.p (.bS1 j3.l0 rfl A7 a7K (fun c0=>(⟨c0,0,0,0,⟨[]⟩,0⟩:j3)) (fun _=>rfl) rfl rfl (.t rfl) (.h (.alloc A7 fun b3 => .n (.C8 A7 (.t rfl) (.t rfl) .z (.nil (.seq (.sr rfl (.p (.m0 j3.l0 (fun x=>x.Kind) U8 rfl (fun _=>rfl) (.t rfl) (.p (.x3 D0 (.t rfl) ?_)))))))))))))))))))))))))
 refine .nil (.block (.seq (.sr a8 (.p (.D4 (.t a8) (.i a8) (.ag a8 (.nil (.o8 (.t a8) (fun hc9 => ?_) (fun hc9 => ?_)))))))))
 ·refine .skip (.o8 (.t a8) (fun hc9 => ?_) (fun hc9 => ?_))
  ·refine .sr a8 (.p (.m0 j3.l1 (fun x=>x.Mask) O2 a8 (fun _=>a8) (.t a8) (.p (.x3 a1i (.t a8) (.p (.x4 j3.l1 O2 a8 (.t a8) (.n (.U0 (fun y x => { x with Mask:=y }) a1i (.t a8) (.t a8) .z (fun _ _=>a8) (.nil (.seq (.draw (by kernel_rfl) 13 [[],[(16,0)],[],[(18,2)],[(19,3)],[(20,4)],[(17,1),(21,5)],[(22,6)],[],[],[(24,8),(25,9)],[(23,7),(26,10)],[(27,11)]] a8 (by kernel_rfl) a8 ?_)))))))))))
   refine⟨_,j6.m0 j3.l1 (fun x=>x.Mask) O2 a8 (fun _=>a8) (.t a8) a8,?_⟩
   refine⟨_,j6.x3 a1i (.t a8) a8,?_⟩
   refine⟨_,j6.m0 j3.l0 (fun x=>x.Kind) U8 a8 (fun _=>a8) (.t a8) a8,?_⟩
   refine⟨_,j6.x3 D0 (.t a8) a8,?_⟩
   refine⟨_,j6.c00 b6T (.c0X hG a04) (.t a8) (by omega) (by omega) a8,?_⟩
   refine⟨_,j6.x3 D0 (.t a8) a8,?_⟩
   refine⟨_,j6.m9 hG (b3y _ _ (a1z _ _).1 (a1z _ _).2) (.cons (.t a8) (.cons (.t a8) .nil)) a8,?_⟩
   refine⟨_,j6.move (.t a8) a8,?_⟩
   refine⟨_,⟨_,_,a8,a8,fun hg24=>j6.x3 A7 (.t a8) a8⟩,?_⟩
   refine⟨_,⟨_,_,a8,a8,fun hg25=>j6.I4 A7 (.t a8) .z a8⟩,?_⟩
   refine⟨_,⟨_,_,a8,a8,fun hg26=>j6.a2a X5 (by decide) a8 (by kernel_rfl) (.q a8 hg26) (.q a8 hg26) a8⟩,?_⟩
   refine⟨_,j6.u0 (.t a8) (fun hp=>(.q a8 hp)) a8,?_⟩
   refine⟨_,j6.assign (.t a8) a8,?_⟩
   show F8 _ _ _ _ _ _ ((2,_)::(27,_)::(26,_)::(25,_)::(24,_)::(23,_)::(22,_)::(21,_)::(20,_)::(19,_)::(18,_)::(17,_)::(16,_)::_) _
   refine .nil (.ret ?_)
   refine⟨_,.r1 a8 (.tmp a8),?_⟩
   first|(exfalso;omega)|(refine congrArg AV.v ?_;(try rw [S1 p.Kind (by omega)]);unfold A5;(repeat (first|rw [if_pos (by omega)]|rw [if_neg (by omega)]));(try rfl))
  ·refine .sr a8 (.p (.D4 (.t a8) (.i a8) (.ag a8 (.nil (.o8 (.t a8) (fun hc28 => ?_) (fun hc28 => ?_))))))
   ·refine .seq (.E7 [j0,j1] (by kernel_rfl) 8 [[],[(30,0)],[],[(32,2)],[],[(34,4),(31,1)],[],[(35,6),(33,3)]] [5,7] a8 (by kernel_rfl) a8 (by kernel_rfl) (by decide) ?_)
    refine⟨_,fun H=>j6.m0 j3.l2 (fun x=>x.J8) G0 a8 (fun _=>a8) (.t a8) a8,?_⟩
    refine⟨_,fun H=>j6.x3 D0 (.t a8) a8,?_⟩
    refine⟨_,fun H=>j6.m0 j3.l3 (fun x=>x.To) G1 a8 (fun _=>a8) (.t a8) a8,?_⟩
    refine⟨_,fun H=>j6.x3 D0 (.t a8) a8,?_⟩
    refine⟨_,fun H=>j6.x4 j3.l2 G0 a8 (.t a8) a8,?_⟩
    refine .inl ?_
    refine⟨_,fun H=>j6.x4 j3.l3 G1 a8 (.t a8) a8,?_⟩
    refine .inl ?_
    refine⟨⟨([],j2 [_,c8]),a8⟩,?_⟩
    refine A6.U0 (fun y x => { x with J8:=y }) D0 (.t rfl) (.t rfl) .z (fun _ _=>rfl) ?_
    refine⟨⟨([],j2 [_,c8]),a8⟩,?_⟩
    refine A6.U0 (fun y x => { x with To:=y }) D0 (.t rfl) (.t rfl) .z (fun _ _=>rfl) ?_
    refine⟨⟨([],j2 [_,c8]),a8⟩,?_⟩
    show F8 _ _ _ _ _ _ ((35,_)::(34,_)::(33,_)::(32,_)::(31,_)::(30,_)::_) _
    refine .nil (.sr a8 (.p (.m0 j3.l2 (fun x=>x.J8) G0 a8 (fun _=>a8) (.t a8) (.p (.x3 D0 (.t a8) (.p (.geq (.t a8) (.i a8) (.mv a8 (.go 39 a8 (.t a8) (fun hg40 => .m0 j3.l2 (fun x=>x.J8) G0 a8 (fun _=>a8) (.t a8) a8) (.go 39 a8 (.t a8) (fun hg41 => .x3 D0 (.q a8 hg41) a8) (.go 39 a8 (.t a8) (fun hg42 => .m0 j3.l3 (fun x=>x.To) G1 a8 (fun _=>a8) (.t a8) a8) (.go 39 a8 (.t a8) (fun hg43 => .x3 D0 (.q a8 hg43) a8) (.go 39 a8 (.t a8) (fun hg44 => .leq (.q a8 hg44) (.q a8 hg44) a8) (.p (.u0 (.t a8) (fun hp=>(.q a8 hp)) (.mv a8 (.go 46 a8 (.t a8) (fun hg47 => .m0 j3.l3 (fun x=>x.To) G1 a8 (fun _=>a8) (.t a8) a8) (.go 46 a8 (.t a8) (fun hg48 => .x3 D0 (.q a8 hg48) a8) (.go 46 a8 (.t a8) (fun hg49 => .leq (.q a8 hg49) (.i a8) a8) (.p (.u0 (.t a8) (fun hp=>(.q a8 hp)) (.mv a8 (.go 51 a8 (.t a8) (fun hg52 => .x3 A7 (.t a8) a8) ?_)))))))))))))))))))))))
    refine .go 51 a8 (.t a8) (fun hg53 => .I4 A7 (.t a8) .z a8) (.go 51 a8 (.t a8) (fun hg54 => .a2a X5 (by decide) a8 (by kernel_rfl) (.q a8 hg54) (.q a8 hg54) a8) (.p (.u0 (.t a8) (fun hp=>(.q a8 hp)) (.ag a8 (.nil (.ret ?_))))))
    refine⟨_,.r1 a8 (.tmp a8),?_⟩
    first|(exfalso;omega)|(refine congrArg AV.v ?_;(try rw [S1 p.Kind (by omega)]);unfold A5;(repeat (first|rw [if_pos (by omega)]|rw [if_neg (by omega)]));(try rfl))
   ·refine .sr a8 (.p (.D4 (.t a8) (.i a8) (.ag a8 (.nil (.o8 (.t a8) (fun hc56 => ?_) (fun hc56 => ?_))))))
    ·refine .seq (.E7 [j0,j1] (by kernel_rfl) 8 [[],[(58,0)],[],[(60,2)],[],[(62,4),(59,1)],[],[(63,6),(61,3)]] [5,7] a8 (by kernel_rfl) a8 (by kernel_rfl) (by decide) ?_)
     refine⟨_,fun H=>j6.m0 j3.l2 (fun x=>x.J8) G0 a8 (fun _=>a8) (.t a8) a8,?_⟩
     refine⟨_,fun H=>j6.x3 D0 (.t a8) a8,?_⟩
     refine⟨_,fun H=>j6.m0 j3.l3 (fun x=>x.To) G1 a8 (fun _=>a8) (.t a8) a8,?_⟩
     refine⟨_,fun H=>j6.x3 D0 (.t a8) a8,?_⟩
     refine⟨_,fun H=>j6.x4 j3.l2 G0 a8 (.t a8) a8,?_⟩
     refine .inl ?_
     refine⟨_,fun H=>j6.x4 j3.l3 G1 a8 (.t a8) a8,?_⟩
     refine .inl ?_
     refine⟨⟨([],j2 [_,c8]),a8⟩,?_⟩
     refine A6.U0 (fun y x => { x with J8:=y }) D0 (.t rfl) (.t rfl) .z (fun _ _=>rfl) ?_
     refine⟨⟨([],j2 [_,c8]),a8⟩,?_⟩
     refine A6.U0 (fun y x => { x with To:=y }) D0 (.t rfl) (.t rfl) .z (fun _ _=>rfl) ?_
     refine⟨⟨([],j2 [_,c8]),a8⟩,?_⟩
     show F8 _ _ _ _ _ _ ((63,_)::(62,_)::(61,_)::(60,_)::(59,_)::(58,_)::_) _
     refine .nil (.sr a8 (.p (.m0 j3.l2 (fun x=>x.J8) G0 a8 (fun _=>a8) (.t a8) (.p (.x3 D0 (.t a8) (.p (.geq (.t a8) (.i a8) (.mv a8 (.go 67 a8 (.t a8) (fun hg68 => .m0 j3.l2 (fun x=>x.J8) G0 a8 (fun _=>a8) (.t a8) a8) (.go 67 a8 (.t a8) (fun hg69 => .x3 D0 (.q a8 hg69) a8) (.go 67 a8 (.t a8) (fun hg70 => .lss (.q a8 hg70) (.i a8) a8) (.p (.u0 (.t a8) (fun hp=>(.q a8 hp)) (.mv a8 (.go 72 a8 (.t a8) (fun hg73 => .m0 j3.l3 (fun x=>x.To) G1 a8 (fun _=>a8) (.t a8) a8) (.go 72 a8 (.t a8) (fun hg74 => .x3 D0 (.q a8 hg74) a8) (.go 72 a8 (.t a8) (fun hg75 => .geq (.q a8 hg75) (.i a8) a8) (.p (.u0 (.t a8) (fun hp=>(.q a8 hp)) (.mv a8 (.go 77 a8 (.t a8) (fun hg78 => .m0 j3.l3 (fun x=>x.To) G1 a8 (fun _=>a8) (.t a8) a8) (.go 77 a8 (.t a8) (fun hg79 => .x3 D0 (.q a8 hg79) a8) (.go 77 a8 (.t a8) (fun hg80 => .lss (.q a8 hg80) (.i a8) a8) ?_)))))))))))))))))))))))
     refine .p (.u0 (.t a8) (fun hp=>(.q a8 hp)) (.mv a8 (.go 82 a8 (.t a8) (fun hg83 => .x3 A7 (.t a8) a8) (.go 82 a8 (.t a8) (fun hg84 => .I4 A7 (.t a8) .z a8) (.go 82 a8 (.t a8) (fun hg85 => .a2a X5 (by decide) a8 (by kernel_rfl) (.q a8 hg85) (.q a8 hg85) a8) (.p (.u0 (.t a8) (fun hp=>(.q a8 hp)) (.ag a8 (.nil (.ret ?_))))))))))
     refine⟨_,.r1 a8 (.tmp a8),?_⟩
     first|(exfalso;omega)|(refine congrArg AV.v ?_;(try rw [S1 p.Kind (by omega)]);unfold A5;(repeat (first|rw [if_pos (by omega)]|rw [if_neg (by omega)]));(try rfl))
    ·refine .sr a8 (.p (.D4 (.t a8) (.i a8) (.ag a8 (.nil (.o8 (.t a8) (fun hc87 => ?_) (fun hc87 => ?_))))))
     ·refine .sr a8 (.p (.m0 j3.l4 (fun x=>x.Name) T1 a8 (fun _=>a8) (.t a8) (.p (.x3 ty9 (.t a8) (.p (.x4 j3.l4 T1 a8 (.t a8) (.n (.U0 (fun y x => { x with Name:=y }) ty9 (.t a8) (.t a8) .z (fun _ _=>a8) (.nil (.sr a8 (.p (.m0 j3.l4 (fun x=>x.Name) T1 a8 (fun _=>a8) (.t a8) (.p (.x3 ty9 (.t a8) (.p (.m9 hG (a5O _) (.cons (.t a8) .nil) (.mv a8 (.go 95 a8 (.t a8) (fun hg96 => .x3 A7 (.t a8) a8) (.go 95 a8 (.t a8) (fun hg97 => .I4 A7 (.t a8) .z a8) (.go 95 a8 (.t a8) (fun hg98 => .a2a X5 (by decide) a8 (by kernel_rfl) (.q a8 hg98) (.q a8 hg98) a8) (.p (.u0 (.t a8) (fun hp=>(.q a8 hp)) (.ag a8 (.nil (.ret ?_)))))))))))))))))))))))))
      refine⟨_,.r1 a8 (.tmp a8),?_⟩
      first|(exfalso;omega)|(refine congrArg AV.v ?_;(try rw [S1 p.Kind (by omega)]);unfold A5;(repeat (first|rw [if_pos (by omega)]|rw [if_neg (by omega)]));(try rfl))
     ·refine .sr a8 (.p (.D4 (.t a8) (.i a8) (.ag a8 (.nil (.o8 (.t a8) (fun hc100 => ?_) (fun hc100 => ?_))))))
      ·refine .sr a8 (.p (.m0 j3.l5 (fun x=>x.Number) Q3 a8 (fun _=>a8) (.t a8) (.p (.x3 D0 (.t a8) (.p (.x4 j3.l5 Q3 a8 (.t a8) (.n (.U0 (fun y x => { x with Number:=y }) D0 (.t a8) (.t a8) .z (fun _ _=>a8) (.nil (.sr a8 (.p (.m0 j3.l5 (fun x=>x.Number) Q3 a8 (fun _=>a8) (.t a8) (.p (.x3 D0 (.t a8) (.p (.geq (.t a8) (.i a8) (.mv a8 (.go 108 a8 (.t a8) (fun hg109 => .m0 j3.l5 (fun x=>x.Number) Q3 a8 (fun _=>a8) (.t a8) a8) (.go 108 a8 (.t a8) (fun hg110 => .x3 D0 (.q a8 hg110) a8) (.go 108 a8 (.t a8) (fun hg111 => .leq (.q a8 hg111) (.i a8) a8) (.p (.u0 (.t a8) (fun hp=>(.q a8 hp)) (.mv a8 (.go 113 a8 (.t a8) (fun hg114 => .x3 A7 (.t a8) a8) (.go 113 a8 (.t a8) (fun hg115 => .I4 A7 (.t a8) .z a8) (.go 113 a8 (.t a8) (fun hg116 => .a2a X5 (by decide) a8 (by kernel_rfl) (.q a8 hg116) (.q a8 hg116) a8) (.p (.u0 (.t a8) (fun hp=>(.q a8 hp)) (.ag a8 ?_)))))))))))))))))))))))))))))
       refine .nil (.ret ?_)
       refine⟨_,.r1 a8 (.tmp a8),?_⟩
       first|(exfalso;omega)|(refine congrArg AV.v ?_;(try rw [S1 p.Kind (by omega)]);unfold A5;(repeat (first|rw [if_pos (by omega)]|rw [if_neg (by omega)]));(try rfl))
      ·refine .skip (.sr a8 (.p (.assign .b (.nil (.ret ?_)))))
       refine⟨_,.r1 a8 (.tmp a8),?_⟩
       first|(exfalso;omega)|(refine congrArg AV.v ?_;(try rw [S1 p.Kind (by omega)]);unfold A5;(repeat (first|rw [if_pos (by omega)]|rw [if_neg (by omega)]));(try rfl))
 ·refine .sr a8 (.p (.D4 (.t a8) (.i a8) (.ag a8 (.nil (.o8 (.t a8) (fun hc9 => ?_) (fun hc9 => ?_))))))
  ·refine .skip (.o8 (.t a8) (fun hc9 => ?_) (fun hc9 => ?_))
   ·refine .sr a8 (.p (.m0 j3.l1 (fun x=>x.Mask) O2 a8 (fun _=>a8) (.t a8) (.p (.x3 a1i (.t a8) (.p (.x4 j3.l1 O2 a8 (.t a8) (.n (.U0 (fun y x => { x with Mask:=y }) a1i (.t a8) (.t a8) .z (fun _ _=>a8) (.nil (.seq (.draw (by kernel_rfl) 13 [[],[(16,0)],[],[(18,2)],[(19,3)],[(20,4)],[(17,1),(21,5)],[(22,6)],[],[],[(24,8),(25,9)],[(23,7),(26,10)],[(27,11)]] a8 (by kernel_rfl) a8 ?_)))))))))))
    refine⟨_,j6.m0 j3.l1 (fun x=>x.Mask) O2 a8 (fun _=>a8) (.t a8) a8,?_⟩
    refine⟨_,j6.x3 a1i (.t a8) a8,?_⟩
    refine⟨_,j6.m0 j3.l0 (fun x=>x.Kind) U8 a8 (fun _=>a8) (.t a8) a8,?_⟩
    refine⟨_,j6.x3 D0 (.t a8) a8,?_⟩
    refine⟨_,j6.c00 b6T (.c0X hG a04) (.t a8) (by omega) (by omega) a8,?_⟩
    refine⟨_,j6.x3 D0 (.t a8) a8,?_⟩
    refine⟨_,j6.m9 hG (b3y _ _ (a1z _ _).1 (a1z _ _).2) (.cons (.t a8) (.cons (.t a8) .nil)) a8,?_⟩
    refine⟨_,j6.move (.t a8) a8,?_⟩
    refine⟨_,⟨_,_,a8,a8,fun hg24=>j6.x3 A7 (.t a8) a8⟩,?_⟩
    refine⟨_,⟨_,_,a8,a8,fun hg25=>j6.I4 A7 (.t a8) .z a8⟩,?_⟩
    refine⟨_,⟨_,_,a8,a8,fun hg26=>j6.a2a X5 (by decide) a8 (by kernel_rfl) (.q a8 hg26) (.q a8 hg26) a8⟩,?_⟩
    refine⟨_,j6.u0 (.t a8) (fun hp=>(.q a8 hp)) a8,?_⟩
    refine⟨_,j6.assign (.t a8) a8,?_⟩
    show F8 _ _ _ _ _ _ ((2,_)::(27,_)::(26,_)::(25,_)::(24,_)::(23,_)::(22,_)::(21,_)::(20,_)::(19,_)::(18,_)::(17,_)::(16,_)::_) _
    refine .nil (.ret ?_)
    refine⟨_,.r1 a8 (.tmp a8),?_⟩
    first|(exfalso;omega)|(refine congrArg AV.v ?_;(try rw [S1 p.Kind (by omega)]);unfold A5;(repeat (first|rw [if_pos (by omega)]|rw [if_neg (by omega)]));(try rfl))
   ·refine .sr a8 (.p (.D4 (.t a8) (.i a8) (.ag a8 (.nil (.o8 (.t a8) (fun hc28 => ?_) (fun hc28 => ?_))))))
    ·refine .seq (.E7 [j0,j1] (by kernel_rfl) 8 [[],[(30,0)],[],[(32,2)],[],[(34,4),(31,1)],[],[(35,6),(33,3)]] [5,7] a8 (by kernel_rfl) a8 (by kernel_rfl) (by decide) ?_)
     refine⟨_,fun H=>j6.m0 j3.l2 (fun x=>x.J8) G0 a8 (fun _=>a8) (.t a8) a8,?_⟩
     refine⟨_,fun H=>j6.x3 D0 (.t a8) a8,?_⟩
     refine⟨_,fun H=>j6.m0 j3.l3 (fun x=>x.To) G1 a8 (fun _=>a8) (.t a8) a8,?_⟩
     refine⟨_,fun H=>j6.x3 D0 (.t a8) a8,?_⟩
     refine⟨_,fun H=>j6.x4 j3.l2 G0 a8 (.t a8) a8,?_⟩
     refine .inl ?_
     refine⟨_,fun H=>j6.x4 j3.l3 G1 a8 (.t a8) a8,?_⟩
     refine .inl ?_
     refine⟨⟨([],j2 [_,c8]),a8⟩,?_⟩
     refine A6.U0 (fun y x => { x with J8:=y }) D0 (.t rfl) (.t rfl) .z (fun _ _=>rfl) ?_
     refine⟨⟨([],j2 [_,c8]),a8⟩,?_⟩
     refine A6.U0 (fun y x => { x with To:=y }) D0 (.t rfl) (.t rfl) .z (fun _ _=>rfl) ?_
     refine⟨⟨([],j2 [_,c8]),a8⟩,?_⟩
     show F8 _ _ _ _ _ _ ((35,_)::(34,_)::(33,_)::(32,_)::(31,_)::(30,_)::_) _
     refine .nil (.sr a8 (.p (.m0 j3.l2 (fun x=>x.J8) G0 a8 (fun _=>a8) (.t a8) (.p (.x3 D0 (.t a8) (.p (.geq (.t a8) (.i a8) (.mv a8 (.go 39 a8 (.t a8) (fun hg40 => .m0 j3.l2 (fun x=>x.J8) G0 a8 (fun _=>a8) (.t a8) a8) (.go 39 a8 (.t a8) (fun hg41 => .x3 D0 (.q a8 hg41) a8) (.go 39 a8 (.t a8) (fun hg42 => .m0 j3.l3 (fun x=>x.To) G1 a8 (fun _=>a8) (.t a8) a8) (.go 39 a8 (.t a8) (fun hg43 => .x3 D0 (.q a8 hg43) a8) (.go 39 a8 (.t a8) (fun hg44 => .leq (.q a8 hg44) (.q a8 hg44) a8) (.p (.u0 (.t a8) (fun hp=>(.q a8 hp)) (.mv a8 (.go 46 a8 (.t a8) (fun hg47 => .m0 j3.l3 (fun x=>x.To) G1 a8 (fun _=>a8) (.t a8) a8) (.go 46 a8 (.t a8) (fun hg48 => .x3 D0 (.q a8 hg48) a8) (.go 46 a8 (.t a8) (fun hg49 => .leq (.q a8 hg49) (.i a8) a8) (.p (.u0 (.t a8) (fun hp=>(.q a8 hp)) (.mv a8 (.go 51 a8 (.t a8) (fun hg52 => .x3 A7 (.t a8) a8) ?_)))))))))))))))))))))))
     refine .go 51 a8 (.t a8) (fun hg53 => .I4 A7 (.t a8) .z a8) (.go 51 a8 (.t a8) (fun hg54 => .a2a X5 (by decide) a8 (by kernel_rfl) (.q a8 hg54) (.q a8 hg54) a8) (.p (.u0 (.t a8) (fun hp=>(.q a8 hp)) (.ag a8 (.nil (.ret ?_))))))
     refine⟨_,.r1 a8 (.tmp a8),?_⟩
     first|(exfalso;omega)|(refine congrArg AV.v ?_;(try rw [S1 p.Kind (by omega)]);unfold A5;(repeat (first|rw [if_pos (by omega)]|rw [if_neg (by omega)]));(try rfl))
    ·refine .sr a8 (.p (.D4 (.t a8) (.i a8) (.ag a8 (.nil (.o8 (.t a8) (fun hc56 => ?_) (fun hc56 => ?_))))))
     ·refine .seq (.E7 [j0,j1] (by kernel_rfl) 8 [[],[(58,0)],[],[(60,2)],[],[(62,4),(59,1)],[],[(63,6),(61,3)]] [5,7] a8 (by kernel_rfl) a8 (by kernel_rfl) (by decide) ?_)
      refine⟨_,fun H=>j6.m0 j3.l2 (fun x=>x.J8) G0 a8 (fun _=>a8) (.t a8) a8,?_⟩
      refine⟨_,fun H=>j6.x3 D0 (.t a8) a8,?_⟩
      refine⟨_,fun H=>j6.m0 j3.l3 (fun x=>x.To) G1 a8 (fun _=>a8) (.t a8) a8,?_⟩
      refine⟨_,fun H=>j6.x3 D0 (.t a8) a8,?_⟩
      refine⟨_,fun H=>j6.x4 j3.l2 G0 a8 (.t a8) a8,?_⟩
      refine .inl ?_
      refine⟨_,fun H=>j6.x4 j3.l3 G1 a8 (.t a8) a8,?_⟩
      refine .inl ?_
      refine⟨⟨([],j2 [_,c8]),a8⟩,?_⟩
      refine A6.U0 (fun y x => { x with J8:=y }) D0 (.t rfl) (.t rfl) .z (fun _ _=>rfl) ?_
      refine⟨⟨([],j2 [_,c8]),a8⟩,?_⟩
      refine A6.U0 (fun y x => { x with To:=y }) D0 (.t rfl) (.t rfl) .z (fun _ _=>rfl) ?_
      refine⟨⟨([],j2 [_,c8]),a8⟩,?_⟩
      show F8 _ _ _ _ _ _ ((63,_)::(62,_)::(61,_)::(60,_)::(59,_)::(58,_)::_) _
      refine .nil (.sr a8 (.p (.m0 j3.l2 (fun x=>x.J8) G0 a8 (fun _=>a8) (.t a8) (.p (.x3 D0 (.t a8) (.p (.geq (.t a8) (.i a8) (.mv a8 (.go 67 a8 (.t a8) (fun hg68 => .m0 j3.l2 (fun x=>x.J8) G0 a8 (fun _=>a8) (.t a8) a8) (.go 67 a8 (.t a8) (fun hg69 => .x3 D0 (.q a8 hg69) a8) (.go 67 a8 (.t a8) (fun hg70 => .lss (.q a8 hg70) (.i a8) a8) (.p (.u0 (.t a8) (fun hp=>(.q a8 hp)) (.mv a8 (.go 72 a8 (.t a8) (fun hg73 => .m0 j3.l3 (fun x=>x.To) G1 a8 (fun _=>a8) (.t a8) a8) (.go 72 a8 (.t a8) (fun hg74 => .x3 D0 (.q a8 hg74) a8) (.go 72 a8 (.t a8) (fun hg75 => .geq (.q a8 hg75) (.i a8) a8) (.p (.u0 (.t a8) (fun hp=>(.q a8 hp)) (.mv a8 (.go 77 a8 (.t a8) (fun hg78 => .m0 j3.l3 (fun x=>x.To) G1 a8 (fun _=>a8) (.t a8) a8) (.go 77 a8 (.t a8) (fun hg79 => .x3 D0 (.q a8 hg79) a8) (.go 77 a8 (.t a8) (fun hg80 => .lss (.q a8 hg80) (.i a8) a8) ?_)))))))))))))))))))))))
      refine .p (.u0 (.t a8) (fun hp=>(.q a8 hp)) (.mv a8 (.go 82 a8 (.t a8) (fun hg83 => .x3 A7 (.t a8) a8) (.go 82 a8 (.t a8) (fun hg84 => .I4 A7 (.t a8) .z a8) (.go 82 a8 (.t a8) (fun hg85 => .a2a X5 (by decide) a8 (by kernel_rfl) (.q a8 hg85) (.q a8 hg85) a8) (.p (.u0 (.t a8) (fun hp=>(.q a8 hp)) (.ag a8 (.nil (.ret ?_))))))))))
      refine⟨_,.r1 a8 (.tmp a8),?_⟩
      first|(exfalso;omega)|(refine congrArg AV.v ?_;(try rw [S1 p.Kind (by omega)]);unfold A5;(repeat (first|rw [if_pos (by omega)]|rw [if_neg (by omega)]));(try rfl))
     ·refine .sr a8 (.p (.D4 (.t a8) (.i a8) (.ag a8 (.nil (.o8 (.t a8) (fun hc87 => ?_) (fun hc87 => ?_))))))
      ·refine .sr a8 (.p (.m0 j3.l4 (fun x=>x.Name) T1 a8 (fun _=>a8) (.t a8) (.p (.x3 ty9 (.t a8) (.p (.x4 j3.l4 T1 a8 (.t a8) (.n (.U0 (fun y x => { x with Name:=y }) ty9 (.t a8) (.t a8) .z (fun _ _=>a8) (.nil (.sr a8 (.p (.m0 j3.l4 (fun x=>x.Name) T1 a8 (fun _=>a8) (.t a8) (.p (.x3 ty9 (.t a8) (.p (.m9 hG (a5O _) (.cons (.t a8) .nil) (.mv a8 (.go 95 a8 (.t a8) (fun hg96 => .x3 A7 (.t a8) a8) (.go 95 a8 (.t a8) (fun hg97 => .I4 A7 (.t a8) .z a8) (.go 95 a8 (.t a8) (fun hg98 => .a2a X5 (by decide) a8 (by kernel_rfl) (.q a8 hg98) (.q a8 hg98) a8) (.p (.u0 (.t a8) (fun hp=>(.q a8 hp)) (.ag a8 (.nil (.ret ?_)))))))))))))))))))))))))
       refine⟨_,.r1 a8 (.tmp a8),?_⟩
       first|(exfalso;omega)|(refine congrArg AV.v ?_;(try rw [S1 p.Kind (by omega)]);unfold A5;(repeat (first|rw [if_pos (by omega)]|rw [if_neg (by omega)]));(try rfl))
      ·refine .sr a8 (.p (.D4 (.t a8) (.i a8) (.ag a8 (.nil (.o8 (.t a8) (fun hc100 => ?_) (fun hc100 => ?_))))))
       ·refine .sr a8 (.p (.m0 j3.l5 (fun x=>x.Number) Q3 a8 (fun _=>a8) (.t a8) (.p (.x3 D0 (.t a8) (.p (.x4 j3.l5 Q3 a8 (.t a8) (.n (.U0 (fun y x => { x with Number:=y }) D0 (.t a8) (.t a8) .z (fun _ _=>a8) (.nil (.sr a8 (.p (.m0 j3.l5 (fun x=>x.Number) Q3 a8 (fun _=>a8) (.t a8) (.p (.x3 D0 (.t a8) (.p (.geq (.t a8) (.i a8) (.mv a8 (.go 108 a8 (.t a8) (fun hg109 => .m0 j3.l5 (fun x=>x.Number) Q3 a8 (fun _=>a8) (.t a8) a8) (.go 108 a8 (.t a8) (fun hg110 => .x3 D0 (.q a8 hg110) a8) (.go 108 a8 (.t a8) (fun hg111 => .leq (.q a8 hg111) (.i a8) a8) (.p (.u0 (.t a8) (fun hp=>(.q a8 hp)) (.mv a8 (.go 113 a8 (.t a8) (fun hg114 => .x3 A7 (.t a8) a8) (.go 113 a8 (.t a8) (fun hg115 => .I4 A7 (.t a8) .z a8) (.go 113 a8 (.t a8) (fun hg116 => .a2a X5 (by decide) a8 (by kernel_rfl) (.q a8 hg116) (.q a8 hg116) a8) (.p (.u0 (.t a8) (fun hp=>(.q a8 hp)) (.ag a8 ?_)))))))))))))))))))))))))))))
        refine .nil (.ret ?_)
        refine⟨_,.r1 a8 (.tmp a8),?_⟩
        first|(exfalso;omega)|(refine congrArg AV.v ?_;(try rw [S1 p.Kind (by omega)]);unfold A5;(repeat (first|rw [if_pos (by omega)]|rw [if_neg (by omega)]));(try rfl))
       ·refine .skip (.sr a8 (.p (.assign .b (.nil (.ret ?_)))))
        refine⟨_,.r1 a8 (.tmp a8),?_⟩
        first|(exfalso;omega)|(refine congrArg AV.v ?_;(try rw [S1 p.Kind (by omega)]);unfold A5;(repeat (first|rw [if_pos (by omega)]|rw [if_neg (by omega)]));(try rfl))
  ·refine .region a8 (.p (.D4 (.t a8) (.i a8) (.ag a8 (.nil (.o8 (.t a8) (fun hc9 => ?_) (fun hc9 => ?_))))))
   ·refine .sr a8 (.p (.m0 j3.l1 (fun x=>x.Mask) O2 a8 (fun _=>a8) (.t a8) (.p (.x3 a1i (.t a8) (.p (.x4 j3.l1 O2 a8 (.t a8) (.n (.U0 (fun y x => { x with Mask:=y }) a1i (.t a8) (.t a8) .z (fun _ _=>a8) (.nil (.seq (.draw (by kernel_rfl) 13 [[],[(16,0)],[],[(18,2)],[(19,3)],[(20,4)],[(17,1),(21,5)],[(22,6)],[],[],[(24,8),(25,9)],[(23,7),(26,10)],[(27,11)]] a8 (by kernel_rfl) a8 ?_)))))))))))
    refine⟨_,j6.m0 j3.l1 (fun x=>x.Mask) O2 a8 (fun _=>a8) (.t a8) a8,?_⟩
    refine⟨_,j6.x3 a1i (.t a8) a8,?_⟩
    refine⟨_,j6.m0 j3.l0 (fun x=>x.Kind) U8 a8 (fun _=>a8) (.t a8) a8,?_⟩
    refine⟨_,j6.x3 D0 (.t a8) a8,?_⟩
    refine⟨_,j6.c00 b6T (.c0X hG a04) (.t a8) (by omega) (by omega) a8,?_⟩
    refine⟨_,j6.x3 D0 (.t a8) a8,?_⟩
    refine⟨_,j6.m9 hG (b3y _ _ (a1z _ _).1 (a1z _ _).2) (.cons (.t a8) (.cons (.t a8) .nil)) a8,?_⟩
    refine⟨_,j6.move (.t a8) a8,?_⟩
    refine⟨_,⟨_,_,a8,a8,fun hg24=>j6.x3 A7 (.t a8) a8⟩,?_⟩
    refine⟨_,⟨_,_,a8,a8,fun hg25=>j6.I4 A7 (.t a8) .z a8⟩,?_⟩
    refine⟨_,⟨_,_,a8,a8,fun hg26=>j6.a2a X5 (by decide) a8 (by kernel_rfl) (.q a8 hg26) (.q a8 hg26) a8⟩,?_⟩
    refine⟨_,j6.u0 (.t a8) (fun hp=>(.q a8 hp)) a8,?_⟩
    refine⟨_,j6.assign (.t a8) a8,?_⟩
    show F8 _ _ _ _ _ _ ((2,_)::(27,_)::(26,_)::(25,_)::(24,_)::(23,_)::(22,_)::(21,_)::(20,_)::(19,_)::(18,_)::(17,_)::(16,_)::_) _
    refine .nil (.ret ?_)
    refine⟨_,.r1 a8 (.tmp a8),?_⟩
    first|(exfalso;omega)|(refine congrArg AV.v ?_;(try rw [S1 p.Kind (by omega)]);unfold A5;(repeat (first|rw [if_pos (by omega)]|rw [if_neg (by omega)]));(try rfl))
   ·refine .sr a8 (.p (.D4 (.t a8) (.i a8) (.ag a8 (.nil (.o8 (.t a8) (fun hc28 => ?_) (fun hc28 => ?_))))))
    ·refine .seq (.E7 [j0,j1] (by kernel_rfl) 8 [[],[(30,0)],[],[(32,2)],[],[(34,4),(31,1)],[],[(35,6),(33,3)]] [5,7] a8 (by kernel_rfl) a8 (by kernel_rfl) (by decide) ?_)
     refine⟨_,fun H=>j6.m0 j3.l2 (fun x=>x.J8) G0 a8 (fun _=>a8) (.t a8) a8,?_⟩
     refine⟨_,fun H=>j6.x3 D0 (.t a8) a8,?_⟩
     refine⟨_,fun H=>j6.m0 j3.l3 (fun x=>x.To) G1 a8 (fun _=>a8) (.t a8) a8,?_⟩
     refine⟨_,fun H=>j6.x3 D0 (.t a8) a8,?_⟩
     refine⟨_,fun H=>j6.x4 j3.l2 G0 a8 (.t a8) a8,?_⟩
     refine .inl ?_
     refine⟨_,fun H=>j6.x4 j3.l3 G1 a8 (.t a8) a8,?_⟩
     refine .inl ?_
     refine⟨⟨([],j2 [_,c8]),a8⟩,?_⟩
     refine A6.U0 (fun y x => { x with J8:=y }) D0 (.t rfl) (.t rfl) .z (fun _ _=>rfl) ?_
     refine⟨⟨([],j2 [_,c8]),a8⟩,?_⟩
     refine A6.U0 (fun y x => { x with To:=y }) D0 (.t rfl) (.t rfl) .z (fun _ _=>rfl) ?_
     refine⟨⟨([],j2 [_,c8]),a8⟩,?_⟩
     show F8 _ _ _ _ _ _ ((35,_)::(34,_)::(33,_)::(32,_)::(31,_)::(30,_)::_) _
     refine .nil (.sr a8 (.p (.m0 j3.l2 (fun x=>x.J8) G0 a8 (fun _=>a8) (.t a8) (.p (.x3 D0 (.t a8) (.p (.geq (.t a8) (.i a8) (.mv a8 (.go 39 a8 (.t a8) (fun hg40 => .m0 j3.l2 (fun x=>x.J8) G0 a8 (fun _=>a8) (.t a8) a8) (.go 39 a8 (.t a8) (fun hg41 => .x3 D0 (.q a8 hg41) a8) (.go 39 a8 (.t a8) (fun hg42 => .m0 j3.l3 (fun x=>x.To) G1 a8 (fun _=>a8) (.t a8) a8) (.go 39 a8 (.t a8) (fun hg43 => .x3 D0 (.q a8 hg43) a8) (.go 39 a8 (.t a8) (fun hg44 => .leq (.q a8 hg44) (.q a8 hg44) a8) (.p (.u0 (.t a8) (fun hp=>(.q a8 hp)) (.mv a8 (.go 46 a8 (.t a8) (fun hg47 => .m0 j3.l3 (fun x=>x.To) G1 a8 (fun _=>a8) (.t a8) a8) (.go 46 a8 (.t a8) (fun hg48 => .x3 D0 (.q a8 hg48) a8) (.go 46 a8 (.t a8) (fun hg49 => .leq (.q a8 hg49) (.i a8) a8) (.p (.u0 (.t a8) (fun hp=>(.q a8 hp)) (.mv a8 (.go 51 a8 (.t a8) (fun hg52 => .x3 A7 (.t a8) a8) ?_)))))))))))))))))))))))
     refine .go 51 a8 (.t a8) (fun hg53 => .I4 A7 (.t a8) .z a8) (.go 51 a8 (.t a8) (fun hg54 => .a2a X5 (by decide) a8 (by kernel_rfl) (.q a8 hg54) (.q a8 hg54) a8) (.p (.u0 (.t a8) (fun hp=>(.q a8 hp)) (.ag a8 (.nil (.ret ?_))))))
     refine⟨_,.r1 a8 (.tmp a8),?_⟩
     first|(exfalso;omega)|(refine congrArg AV.v ?_;(try rw [S1 p.Kind (by omega)]);unfold A5;(repeat (first|rw [if_pos (by omega)]|rw [if_neg (by omega)]));(try rfl))
    ·refine .sr a8 (.p (.D4 (.t a8) (.i a8) (.ag a8 (.nil (.o8 (.t a8) (fun hc56 => ?_) (fun hc56 => ?_))))))
     ·refine .seq (.E7 [j0,j1] (by kernel_rfl) 8 [[],[(58,0)],[],[(60,2)],[],[(62,4),(59,1)],[],[(63,6),(61,3)]] [5,7] a8 (by kernel_rfl) a8 (by kernel_rfl) (by decide) ?_)
      refine⟨_,fun H=>j6.m0 j3.l2 (fun x=>x.J8) G0 a8 (fun _=>a8) (.t a8) a8,?_⟩
      refine⟨_,fun H=>j6.x3 D0 (.t a8) a8,?_⟩
      refine⟨_,fun H=>j6.m0 j3.l3 (fun x=>x.To) G1 a8 (fun _=>a8) (.t a8) a8,?_⟩
      refine⟨_,fun H=>j6.x3 D0 (.t a8) a8,?_⟩
      refine⟨_,fun H=>j6.x4 j3.l2 G0 a8 (.t a8) a8,?_⟩
      refine .inl ?_
      refine⟨_,fun H=>j6.x4 j3.l3 G1 a8 (.t a8) a8,?_⟩
      refine .inl ?_
      refine⟨⟨([],j2 [_,c8]),a8⟩,?_⟩
      refine A6.U0 (fun y x => { x with J8:=y }) D0 (.t rfl) (.t rfl) .z (fun _ _=>rfl) ?_
      refine⟨⟨([],j2 [_,c8]),a8⟩,?_⟩
      refine A6.U0 (fun y x => { x with To:=y }) D0 (.t rfl) (.t rfl) .z (fun _ _=>rfl) ?_
      refine⟨⟨([],j2 [_,c8]),a8⟩,?_⟩
      show F8 _ _ _ _ _ _ ((63,_)::(62,_)::(61,_)::(60,_)::(59,_)::(58,_)::_) _
      refine .nil (.sr a8 (.p (.m0 j3.l2 (fun x=>x.J8) G0 a8 (fun _=>a8) (.t a8) (.p (.x3 D0 (.t a8) (.p (.geq (.t a8) (.i a8) (.mv a8 (.go 67 a8 (.t a8) (fun hg68 => .m0 j3.l2 (fun x=>x.J8) G0 a8 (fun _=>a8) (.t a8) a8) (.go 67 a8 (.t a8) (fun hg69 => .x3 D0 (.q a8 hg69) a8) (.go 67 a8 (.t a8) (fun hg70 => .lss (.q a8 hg70) (.i a8) a8) (.p (.u0 (.t a8) (fun hp=>(.q a8 hp)) (.mv a8 (.go 72 a8 (.t a8) (fun hg73 => .m0 j3.l3 (fun x=>x.To) G1 a8 (fun _=>a8) (.t a8) a8) (.go 72 a8 (.t a8) (fun hg74 => .x3 D0 (.q a8 hg74) a8) (.go 72 a8 (.t a8) (fun hg75 => .geq (.q a8 hg75) (.i a8) a8) (.p (.u0 (.t a8) (fun hp=>(.q a8 hp)) (.mv a8 (.go 77 a8 (.t a8) (fun hg78 => .m0 j3.l3 (fun x=>x.To) G1 a8 (fun _=>a8) (.t a8) a8) (.go 77 a8 (.t a8) (fun hg79 => .x3 D0 (.q a8 hg79) a8) (.go 77 a8 (.t a8) (fun hg80 => .lss (.q a8 hg80) (.i a8) a8) ?_)))))))))))))))))))))))
      refine .p (.u0 (.t a8) (fun hp=>(.q a8 hp)) (.mv a8 (.go 82 a8 (.t a8) (fun hg83 => .x3 A7 (.t a8) a8) (.go 82 a8 (.t a8) (fun hg84 => .I4 A7 (.t a8) .z a8) (.go 82 a8 (.t a8) (fun hg85 => .a2a X5 (by decide) a8 (by kernel_rfl) (.q a8 hg85) (.q a8 hg85) a8) (.p (.u0 (.t a8) (fun hp=>(.q a8 hp)) (.ag a8 (.nil (.ret ?_))))))))))
      refine⟨_,.r1 a8 (.tmp a8),?_⟩
      first|(exfalso;omega)|(refine congrArg AV.v ?_;(try rw [S1 p.Kind (by omega)]);unfold A5;(repeat (first|rw [if_pos (by omega)]|rw [if_neg (by omega)]));(try rfl))
     ·refine .sr a8 (.p (.D4 (.t a8) (.i a8) (.ag a8 (.nil (.o8 (.t a8) (fun hc87 => ?_) (fun hc87 => ?_))))))
      ·refine .sr a8 (.p (.m0 j3.l4 (fun x=>x.Name) T1 a8 (fun _=>a8) (.t a8) (.p (.x3 ty9 (.t a8) (.p (.x4 j3.l4 T1 a8 (.t a8) (.n (.U0 (fun y x => { x with Name:=y }) ty9 (.t a8) (.t a8) .z (fun _ _=>a8) (.nil (.sr a8 (.p (.m0 j3.l4 (fun x=>x.Name) T1 a8 (fun _=>a8) (.t a8) (.p (.x3 ty9 (.t a8) (.p (.m9 hG (a5O _) (.cons (.t a8) .nil) (.mv a8 (.go 95 a8 (.t a8) (fun hg96 => .x3 A7 (.t a8) a8) (.go 95 a8 (.t a8) (fun hg97 => .I4 A7 (.t a8) .z a8) (.go 95 a8 (.t a8) (fun hg98 => .a2a X5 (by decide) a8 (by kernel_rfl) (.q a8 hg98) (.q a8 hg98) a8) (.p (.u0 (.t a8) (fun hp=>(.q a8 hp)) (.ag a8 (.nil (.ret ?_)))))))))))))))))))))))))
       refine⟨_,.r1 a8 (.tmp a8),?_⟩
       first|(exfalso;omega)|(refine congrArg AV.v ?_;(try rw [S1 p.Kind (by omega)]);unfold A5;(repeat (first|rw [if_pos (by omega)]|rw [if_neg (by omega)]));(try rfl))
      ·refine .sr a8 (.p (.D4 (.t a8) (.i a8) (.ag a8 (.nil (.o8 (.t a8) (fun hc100 => ?_) (fun hc100 => ?_))))))
       ·refine .sr a8 (.p (.m0 j3.l5 (fun x=>x.Number) Q3 a8 (fun _=>a8) (.t a8) (.p (.x3 D0 (.t a8) (.p (.x4 j3.l5 Q3 a8 (.t a8) (.n (.U0 (fun y x => { x with Number:=y }) D0 (.t a8) (.t a8) .z (fun _ _=>a8) (.nil (.sr a8 (.p (.m0 j3.l5 (fun x=>x.Number) Q3 a8 (fun _=>a8) (.t a8) (.p (.x3 D0 (.t a8) (.p (.geq (.t a8) (.i a8) (.mv a8 (.go 108 a8 (.t a8) (fun hg109 => .m0 j3.l5 (fun x=>x.Number) Q3 a8 (fun _=>a8) (.t a8) a8) (.go 108 a8 (.t a8) (fun hg110 => .x3 D0 (.q a8 hg110) a8) (.go 108 a8 (.t a8) (fun hg111 => .leq (.q a8 hg111) (.i a8) a8) (.p (.u0 (.t a8) (fun hp=>(.q a8 hp)) (.mv a8 (.go 113 a8 (.t a8) (fun hg114 => .x3 A7 (.t a8) a8) (.go 113 a8 (.t a8) (fun hg115 => .I4 A7 (.t a8) .z a8) (.go 113 a8 (.t a8) (fun hg116 => .a2a X5 (by decide) a8 (by kernel_rfl) (.q a8 hg116) (.q a8 hg116) a8) (.p (.u0 (.t a8) (fun hp=>(.q a8 hp)) (.ag a8 ?_)))))))))))))))))))))))))))))
        refine .nil (.ret ?_)
        refine⟨_,.r1 a8 (.tmp a8),?_⟩
        first|(exfalso;omega)|(refine congrArg AV.v ?_;(try rw [S1 p.Kind (by omega)]);unfold A5;(repeat (first|rw [if_pos (by omega)]|rw [if_neg (by omega)]));(try rfl))
       ·refine .skip (.sr a8 (.p (.assign .b (.nil (.ret ?_)))))
        refine⟨_,.r1 a8 (.tmp a8),?_⟩
        first|(exfalso;omega)|(refine congrArg AV.v ?_;(try rw [S1 p.Kind (by omega)]);unfold A5;(repeat (first|rw [if_pos (by omega)]|rw [if_neg (by omega)]));(try rfl))
theorem c1l (m:UInt64):(m < 4294967296)↔m >>> 32=0:=by
 rw [UInt64.lt_iff_toNat_lt,←UInt64.toNat_inj,UInt64.toNat_shiftRight]
 show m.toNat < 4294967296↔m.toNat >>> 32=0
 rw [Nat.shiftRight_eq_div_pow];constructor<;>(intro h;omega)
theorem c2x (m:UInt64):(m < 128)↔m >>> 7=0:=by
 rw [UInt64.lt_iff_toNat_lt,←UInt64.toNat_inj,UInt64.toNat_shiftRight]
 show m.toNat < 128↔m.toNat >>> 7=0
 rw [Nat.shiftRight_eq_div_pow];constructor<;>(intro h;omega)
theorem a1Z (m:UInt64):a07 m (G9 1)=decide (m≠0):=by unfold a07 G9;simp
theorem a10 (m:UInt64):a07 m (G9 2)=(decide (m≠0)&&decide (m < 4294967296)):=by
 have e:decide (m < 4294967296)=decide (m >>> 32=0):=decide_eq_decide.2 (c1l m)
 rw [e];rfl
theorem a11 (m:UInt64):a07 m (G9 3)=(decide (m≠0)&&decide (m < 128)):=by
 have e:decide (m < 128)=decide (m >>> 7=0):=decide_eq_decide.2 (c2x m)
 rw [e];rfl
theorem a08 (p:Pred):u1 gl Tryz.prog 107 [.v p] (fun r=>r = .v (A5 p)):=by
 refine u1.intro Tryz.func107 rfl (by kernel_rfl) 120 rfl rfl _ rfl fun C hC hG=>(.sr rfl (.h (.box (.t rfl) fun b1 => .p (.assign .b (.nil (.seq (.B0 hC .z (.Q5 1 rfl .z (.region rfl (.p (.m0 j3.l0 (fun x=>x.Kind) U8 rfl (fun _=>rfl) (.t rfl) (.p (.x3 D0 (.t rfl) (.p (.bS1 j3.l0 rfl A7 a7K (fun c0=>(⟨c0,0,0,0,⟨[]⟩,0⟩:j3)) (fun _=>rfl) rfl rfl (.t rfl) (.h (.alloc A7 fun b3 => .n (.C8 A7 (.t rfl) (.t rfl) .z (.nil (.sr rfl (.p (.assign .b (.nil ?_)))))))))))))))))))))))
 refine .seq (.sr a8 (.p (.m0 j3.l0 (fun x=>x.Kind) U8 a8 (fun _=>a8) (.t a8) (.p (.x3 D0 (.t a8) (.nil (.block (.sr a8 (.p (.D4 (.t a8) (.i a8) (.ag a8 (.nil (.o8 (.t a8) (fun hc10 => ?_) (fun hc10 => ?_))))))))))))))
 ·refine .E7 [j0,j1] (by kernel_rfl) 8 [[],[(12,0)],[],[(14,2)],[(15,3)],[],[(17,5),(13,1)],[(16,4)]] [6] a8 (by kernel_rfl) a8 (by kernel_rfl) (by decide) ?_
  refine⟨_,fun H=>j6.m0 j3.l1 (fun x=>x.Mask) O2 a8 (fun _=>a8) (.t a8) a8,?_⟩
  refine⟨_,fun H=>j6.x3 a1i (.t a8) a8,?_⟩
  refine⟨_,fun H=>j6.m0 j3.l1 (fun x=>x.Mask) O2 a8 (fun _=>a8) (.t a8) a8,?_⟩
  refine⟨_,fun H=>j6.x3 a1i (.t a8) a8,?_⟩
  refine⟨_,fun H=>j6.b4E (.t a8) (.u64 0 a8) a8,?_⟩
  refine⟨_,fun H=>j6.x4 j3.l1 O2 a8 (.t a8) a8,?_⟩
  refine .inl ?_
  refine⟨_,fun H=>j6.assign (.t a8) a8,?_⟩
  refine⟨⟨([],j2 [_,c8]),a8⟩,?_⟩
  refine A6.U0 (fun y x => { x with Mask:=y }) a1i (.t rfl) (.t rfl) .z (fun _ _=>rfl) ?_
  refine⟨⟨([],j2 [_,c8]),a8⟩,?_⟩
  show F8 _ _ _ _ _ _ ((4,_)::(17,_)::(16,_)::(15,_)::(14,_)::(13,_)::(12,_)::_) _
  refine .nil (.sr a8 (.mv a8 (.mv a8 (.go 115 a8 (.t a8) (fun hg116 => .x3 A7 (.t a8) a8) (.go 115 a8 (.t a8) (fun hg117 => .I4 A7 (.t a8) .z a8) (.go 115 a8 (.t a8) (fun hg118 => .a2a X5 (by decide) a8 (by kernel_rfl) (.q a8 hg118) (.q a8 hg118) a8) (.p (.u0 (.t a8) (fun hp=>(.q a8 hp)) (.ag a8 (.nil (.ret ?_)))))))))))
  refine⟨_,.r1 a8 (.tmp a8),?_⟩
  refine congrArg AV.v ?_
  unfold A5
  (repeat (first|rw [if_pos (by omega)]|rw [if_neg (by omega)]))
  (try first|rfl|(rw [show G9 p.Kind=G9 1 by rw [hc10],a1Z])|(rw [show G9 p.Kind=G9 2 by rw [hc18],a10])|(rw [show G9 p.Kind=G9 3 by rw [hc31],a11]))
 ·refine .sr a8 (.p (.D4 (.t a8) (.i a8) (.ag a8 (.nil (.o8 (.t a8) (fun hc18 => ?_) (fun hc18 => ?_))))))
  ·refine .E7 [j0,j1] (by kernel_rfl) 13 [[],[(20,0)],[],[(22,2)],[(23,3)],[(24,4)],[],[(26,6)],[(27,7)],[(25,5),(28,8)],[],[(30,10),(21,1)],[(29,9)]] [11] a8 (by kernel_rfl) a8 (by kernel_rfl) (by decide) ?_
   refine⟨_,fun H=>j6.m0 j3.l1 (fun x=>x.Mask) O2 a8 (fun _=>a8) (.t a8) a8,?_⟩
   refine⟨_,fun H=>j6.x3 a1i (.t a8) a8,?_⟩
   refine⟨_,fun H=>j6.m0 j3.l1 (fun x=>x.Mask) O2 a8 (fun _=>a8) (.t a8) a8,?_⟩
   refine⟨_,fun H=>j6.x3 a1i (.t a8) a8,?_⟩
   refine⟨_,fun H=>j6.b4E (.t a8) (.u64 0 a8) a8,?_⟩
   refine⟨_,fun H=>j6.move (.t a8) a8,?_⟩
   refine⟨_,fun H=>⟨_,_,a8,a8,fun hg26=>j6.m0 j3.l1 (fun x=>x.Mask) O2 a8 (fun _=>a8) (.t a8) a8⟩,?_⟩
   refine⟨_,fun H=>⟨_,_,a8,a8,fun hg27=>j6.x3 a1i (.q a8 hg27) a8⟩,?_⟩
   refine⟨_,fun H=>⟨_,_,a8,a8,fun hg28=>j6.c0G (.q a8 hg28) (.u64 4294967296 a8) a8⟩,?_⟩
   refine⟨_,fun H=>j6.u0 (.t a8) (fun hp=>(.q a8 hp)) a8,?_⟩
   refine⟨_,fun H=>j6.x4 j3.l1 O2 a8 (.t a8) a8,?_⟩
   refine .inl ?_
   refine⟨_,fun H=>j6.assign (.t a8) a8,?_⟩
   refine⟨⟨([],j2 [_,c8]),a8⟩,?_⟩
   refine A6.U0 (fun y x => { x with Mask:=y }) a1i (.t rfl) (.t rfl) .z (fun _ _=>rfl) ?_
   refine⟨⟨([],j2 [_,c8]),a8⟩,?_⟩
   show F8 _ _ _ _ _ _ ((4,_)::(30,_)::(29,_)::(28,_)::(27,_)::(26,_)::(25,_)::(24,_)::(23,_)::(22,_)::(21,_)::(20,_)::_) _
   refine .nil (.sr a8 (.mv a8 (.mv a8 (.go 115 a8 (.t a8) (fun hg116 => .x3 A7 (.t a8) a8) (.go 115 a8 (.t a8) (fun hg117 => .I4 A7 (.t a8) .z a8) (.go 115 a8 (.t a8) (fun hg118 => .a2a X5 (by decide) a8 (by kernel_rfl) (.q a8 hg118) (.q a8 hg118) a8) (.p (.u0 (.t a8) (fun hp=>(.q a8 hp)) (.ag a8 (.nil (.ret ?_)))))))))))
   refine⟨_,.r1 a8 (.tmp a8),?_⟩
   refine congrArg AV.v ?_
   unfold A5
   (repeat (first|rw [if_pos (by omega)]|rw [if_neg (by omega)]))
   (try first|rfl|(rw [show G9 p.Kind=G9 1 by rw [hc10],a1Z])|(rw [show G9 p.Kind=G9 2 by rw [hc18],a10])|(rw [show G9 p.Kind=G9 3 by rw [hc31],a11]))
  ·refine .sr a8 (.p (.D4 (.t a8) (.i a8) (.ag a8 (.nil (.o8 (.t a8) (fun hc31 => ?_) (fun hc31 => ?_))))))
   ·refine .E7 [j0,j1] (by kernel_rfl) 13 [[],[(33,0)],[],[(35,2)],[(36,3)],[(37,4)],[],[(39,6)],[(40,7)],[(38,5),(41,8)],[],[(43,10),(34,1)],[(42,9)]] [11] a8 (by kernel_rfl) a8 (by kernel_rfl) (by decide) ?_
    refine⟨_,fun H=>j6.m0 j3.l1 (fun x=>x.Mask) O2 a8 (fun _=>a8) (.t a8) a8,?_⟩
    refine⟨_,fun H=>j6.x3 a1i (.t a8) a8,?_⟩
    refine⟨_,fun H=>j6.m0 j3.l1 (fun x=>x.Mask) O2 a8 (fun _=>a8) (.t a8) a8,?_⟩
    refine⟨_,fun H=>j6.x3 a1i (.t a8) a8,?_⟩
    refine⟨_,fun H=>j6.b4E (.t a8) (.u64 0 a8) a8,?_⟩
    refine⟨_,fun H=>j6.move (.t a8) a8,?_⟩
    refine⟨_,fun H=>⟨_,_,a8,a8,fun hg39=>j6.m0 j3.l1 (fun x=>x.Mask) O2 a8 (fun _=>a8) (.t a8) a8⟩,?_⟩
    refine⟨_,fun H=>⟨_,_,a8,a8,fun hg40=>j6.x3 a1i (.q a8 hg40) a8⟩,?_⟩
    refine⟨_,fun H=>⟨_,_,a8,a8,fun hg41=>j6.c0G (.q a8 hg41) (.u64 128 a8) a8⟩,?_⟩
    refine⟨_,fun H=>j6.u0 (.t a8) (fun hp=>(.q a8 hp)) a8,?_⟩
    refine⟨_,fun H=>j6.x4 j3.l1 O2 a8 (.t a8) a8,?_⟩
    refine .inl ?_
    refine⟨_,fun H=>j6.assign (.t a8) a8,?_⟩
    refine⟨⟨([],j2 [_,c8]),a8⟩,?_⟩
    refine A6.U0 (fun y x => { x with Mask:=y }) a1i (.t rfl) (.t rfl) .z (fun _ _=>rfl) ?_
    refine⟨⟨([],j2 [_,c8]),a8⟩,?_⟩
    show F8 _ _ _ _ _ _ ((4,_)::(43,_)::(42,_)::(41,_)::(40,_)::(39,_)::(38,_)::(37,_)::(36,_)::(35,_)::(34,_)::(33,_)::_) _
    refine .nil (.sr a8 (.mv a8 (.mv a8 (.go 115 a8 (.t a8) (fun hg116 => .x3 A7 (.t a8) a8) (.go 115 a8 (.t a8) (fun hg117 => .I4 A7 (.t a8) .z a8) (.go 115 a8 (.t a8) (fun hg118 => .a2a X5 (by decide) a8 (by kernel_rfl) (.q a8 hg118) (.q a8 hg118) a8) (.p (.u0 (.t a8) (fun hp=>(.q a8 hp)) (.ag a8 (.nil (.ret ?_)))))))))))
    refine⟨_,.r1 a8 (.tmp a8),?_⟩
    refine congrArg AV.v ?_
    unfold A5
    (repeat (first|rw [if_pos (by omega)]|rw [if_neg (by omega)]))
    (try first|rfl|(rw [show G9 p.Kind=G9 1 by rw [hc10],a1Z])|(rw [show G9 p.Kind=G9 2 by rw [hc18],a10])|(rw [show G9 p.Kind=G9 3 by rw [hc31],a11]))
   ·refine .sr a8 (.p (.D4 (.t a8) (.i a8) (.ag a8 (.nil (.o8 (.t a8) (fun hc44 => ?_) (fun hc44 => ?_))))))
    ·refine .E7 [j0,j1] (by kernel_rfl) 24 [[],[(46,0)],[],[(48,2)],[],[(50,4)],[(51,5)],[(52,6)],[],[(54,8)],[],[(56,10)],[(55,9),(57,11)],[(53,7),(58,12)],[(59,13)],[],[(61,15)],[(62,16)],[(60,14),(63,17)],[],[(65,19),(47,1)],[],[(66,21),(49,3)],[(64,18)]] [20,22] a8 (by kernel_rfl) a8 (by kernel_rfl) (by decide) ?_
     refine⟨_,fun H=>j6.m0 j3.l2 (fun x=>x.J8) G0 a8 (fun _=>a8) (.t a8) a8,?_⟩
     refine⟨_,fun H=>j6.x3 D0 (.t a8) a8,?_⟩
     refine⟨_,fun H=>j6.m0 j3.l3 (fun x=>x.To) G1 a8 (fun _=>a8) (.t a8) a8,?_⟩
     refine⟨_,fun H=>j6.x3 D0 (.t a8) a8,?_⟩
     refine⟨_,fun H=>j6.m0 j3.l2 (fun x=>x.J8) G0 a8 (fun _=>a8) (.t a8) a8,?_⟩
     refine⟨_,fun H=>j6.x3 D0 (.t a8) a8,?_⟩
     refine⟨_,fun H=>j6.geq (.t a8) (.i a8) a8,?_⟩
     refine⟨_,fun H=>j6.move (.t a8) a8,?_⟩
     refine⟨_,fun H=>⟨_,_,a8,a8,fun hg54=>j6.m0 j3.l2 (fun x=>x.J8) G0 a8 (fun _=>a8) (.t a8) a8⟩,?_⟩
     refine⟨_,fun H=>⟨_,_,a8,a8,fun hg55=>j6.x3 D0 (.q a8 hg55) a8⟩,?_⟩
     refine⟨_,fun H=>⟨_,_,a8,a8,fun hg56=>j6.m0 j3.l3 (fun x=>x.To) G1 a8 (fun _=>a8) (.t a8) a8⟩,?_⟩
     refine⟨_,fun H=>⟨_,_,a8,a8,fun hg57=>j6.x3 D0 (.q a8 hg57) a8⟩,?_⟩
     refine⟨_,fun H=>⟨_,_,a8,a8,fun hg58=>j6.leq (.q a8 hg58) (.q a8 hg58) a8⟩,?_⟩
     refine⟨_,fun H=>j6.u0 (.t a8) (fun hp=>(.q a8 hp)) a8,?_⟩
     refine⟨_,fun H=>j6.move (.t a8) a8,?_⟩
     refine⟨_,fun H=>⟨_,_,a8,a8,fun hg61=>j6.m0 j3.l3 (fun x=>x.To) G1 a8 (fun _=>a8) (.t a8) a8⟩,?_⟩
     refine⟨_,fun H=>⟨_,_,a8,a8,fun hg62=>j6.x3 D0 (.q a8 hg62) a8⟩,?_⟩
     refine⟨_,fun H=>⟨_,_,a8,a8,fun hg63=>j6.leq (.q a8 hg63) (.i a8) a8⟩,?_⟩
     refine⟨_,fun H=>j6.u0 (.t a8) (fun hp=>(.q a8 hp)) a8,?_⟩
     refine⟨_,fun H=>j6.x4 j3.l2 G0 a8 (.t a8) a8,?_⟩
     refine .inl ?_
     refine⟨_,fun H=>j6.x4 j3.l3 G1 a8 (.t a8) a8,?_⟩
     refine .inl ?_
     refine⟨_,fun H=>j6.assign (.t a8) a8,?_⟩
     refine⟨⟨([],j2 [_,c8]),a8⟩,?_⟩
     refine A6.U0 (fun y x => { x with J8:=y }) D0 (.t rfl) (.t rfl) .z (fun _ _=>rfl) ?_
     refine⟨⟨([],j2 [_,c8]),a8⟩,?_⟩
     refine A6.U0 (fun y x => { x with To:=y }) D0 (.t rfl) (.t rfl) .z (fun _ _=>rfl) ?_
     refine⟨⟨([],j2 [_,c8]),a8⟩,?_⟩
     show F8 _ _ _ _ _ _ ((4,_)::(66,_)::(65,_)::(64,_)::(63,_)::(62,_)::(61,_)::(60,_)::(59,_)::(58,_)::(57,_)::(56,_)::(55,_)::(54,_)::(53,_)::(52,_)::(51,_)::(50,_)::(49,_)::(48,_)::(47,_)::(46,_)::_) _
     refine .nil (.sr a8 (.mv a8 (.mv a8 (.go 115 a8 (.t a8) (fun hg116 => .x3 A7 (.t a8) a8) (.go 115 a8 (.t a8) (fun hg117 => .I4 A7 (.t a8) .z a8) (.go 115 a8 (.t a8) (fun hg118 => .a2a X5 (by decide) a8 (by kernel_rfl) (.q a8 hg118) (.q a8 hg118) a8) (.p (.u0 (.t a8) (fun hp=>(.q a8 hp)) (.ag a8 (.nil (.ret ?_)))))))))))
     refine⟨_,.r1 a8 (.tmp a8),?_⟩
     refine congrArg AV.v ?_
     unfold A5
     (repeat (first|rw [if_pos (by omega)]|rw [if_neg (by omega)]))
     (try first|rfl|(rw [show G9 p.Kind=G9 1 by rw [hc10],a1Z])|(rw [show G9 p.Kind=G9 2 by rw [hc18],a10])|(rw [show G9 p.Kind=G9 3 by rw [hc31],a11]))
    ·refine .sr a8 (.p (.D4 (.t a8) (.i a8) (.ag a8 (.nil (.o8 (.t a8) (fun hc67 => ?_) (fun hc67 => ?_))))))
     ·refine .E7 [j0,j1] (by kernel_rfl) 27 [[],[(69,0)],[],[(71,2)],[],[(73,4)],[(74,5)],[(75,6)],[],[(77,8)],[(78,9)],[(76,7),(79,10)],[(80,11)],[],[(82,13)],[(83,14)],[(81,12),(84,15)],[(85,16)],[],[(87,18)],[(88,19)],[(86,17),(89,20)],[],[(91,22),(70,1)],[],[(92,24),(72,3)],[(90,21)]] [23,25] a8 (by kernel_rfl) a8 (by kernel_rfl) (by decide) ?_
      refine⟨_,fun H=>j6.m0 j3.l2 (fun x=>x.J8) G0 a8 (fun _=>a8) (.t a8) a8,?_⟩
      refine⟨_,fun H=>j6.x3 D0 (.t a8) a8,?_⟩
      refine⟨_,fun H=>j6.m0 j3.l3 (fun x=>x.To) G1 a8 (fun _=>a8) (.t a8) a8,?_⟩
      refine⟨_,fun H=>j6.x3 D0 (.t a8) a8,?_⟩
      refine⟨_,fun H=>j6.m0 j3.l2 (fun x=>x.J8) G0 a8 (fun _=>a8) (.t a8) a8,?_⟩
      refine⟨_,fun H=>j6.x3 D0 (.t a8) a8,?_⟩
      refine⟨_,fun H=>j6.geq (.t a8) (.i a8) a8,?_⟩
      refine⟨_,fun H=>j6.move (.t a8) a8,?_⟩
      refine⟨_,fun H=>⟨_,_,a8,a8,fun hg77=>j6.m0 j3.l2 (fun x=>x.J8) G0 a8 (fun _=>a8) (.t a8) a8⟩,?_⟩
      refine⟨_,fun H=>⟨_,_,a8,a8,fun hg78=>j6.x3 D0 (.q a8 hg78) a8⟩,?_⟩
      refine⟨_,fun H=>⟨_,_,a8,a8,fun hg79=>j6.lss (.q a8 hg79) (.i a8) a8⟩,?_⟩
      refine⟨_,fun H=>j6.u0 (.t a8) (fun hp=>(.q a8 hp)) a8,?_⟩
      refine⟨_,fun H=>j6.move (.t a8) a8,?_⟩
      refine⟨_,fun H=>⟨_,_,a8,a8,fun hg82=>j6.m0 j3.l3 (fun x=>x.To) G1 a8 (fun _=>a8) (.t a8) a8⟩,?_⟩
      refine⟨_,fun H=>⟨_,_,a8,a8,fun hg83=>j6.x3 D0 (.q a8 hg83) a8⟩,?_⟩
      refine⟨_,fun H=>⟨_,_,a8,a8,fun hg84=>j6.geq (.q a8 hg84) (.i a8) a8⟩,?_⟩
      refine⟨_,fun H=>j6.u0 (.t a8) (fun hp=>(.q a8 hp)) a8,?_⟩
      refine⟨_,fun H=>j6.move (.t a8) a8,?_⟩
      refine⟨_,fun H=>⟨_,_,a8,a8,fun hg87=>j6.m0 j3.l3 (fun x=>x.To) G1 a8 (fun _=>a8) (.t a8) a8⟩,?_⟩
      refine⟨_,fun H=>⟨_,_,a8,a8,fun hg88=>j6.x3 D0 (.q a8 hg88) a8⟩,?_⟩
      refine⟨_,fun H=>⟨_,_,a8,a8,fun hg89=>j6.lss (.q a8 hg89) (.i a8) a8⟩,?_⟩
      refine⟨_,fun H=>j6.u0 (.t a8) (fun hp=>(.q a8 hp)) a8,?_⟩
      refine⟨_,fun H=>j6.x4 j3.l2 G0 a8 (.t a8) a8,?_⟩
      refine .inl ?_
      refine⟨_,fun H=>j6.x4 j3.l3 G1 a8 (.t a8) a8,?_⟩
      refine .inl ?_
      refine⟨_,fun H=>j6.assign (.t a8) a8,?_⟩
      refine⟨⟨([],j2 [_,c8]),a8⟩,?_⟩
      refine A6.U0 (fun y x => { x with J8:=y }) D0 (.t rfl) (.t rfl) .z (fun _ _=>rfl) ?_
      refine⟨⟨([],j2 [_,c8]),a8⟩,?_⟩
      refine A6.U0 (fun y x => { x with To:=y }) D0 (.t rfl) (.t rfl) .z (fun _ _=>rfl) ?_
      refine⟨⟨([],j2 [_,c8]),a8⟩,?_⟩
      show F8 _ _ _ _ _ _ ((4,_)::(92,_)::(91,_)::(90,_)::(89,_)::(88,_)::(87,_)::(86,_)::(85,_)::(84,_)::(83,_)::(82,_)::(81,_)::(80,_)::(79,_)::(78,_)::(77,_)::(76,_)::(75,_)::(74,_)::(73,_)::(72,_)::(71,_)::(70,_)::(69,_)::_) _
      refine .nil (.sr a8 (.mv a8 (.mv a8 (.go 115 a8 (.t a8) (fun hg116 => .x3 A7 (.t a8) a8) (.go 115 a8 (.t a8) (fun hg117 => .I4 A7 (.t a8) .z a8) (.go 115 a8 (.t a8) (fun hg118 => .a2a X5 (by decide) a8 (by kernel_rfl) (.q a8 hg118) (.q a8 hg118) a8) (.p (.u0 (.t a8) (fun hp=>(.q a8 hp)) (.ag a8 (.nil (.ret ?_)))))))))))
      refine⟨_,.r1 a8 (.tmp a8),?_⟩
      refine congrArg AV.v ?_
      unfold A5
      (repeat (first|rw [if_pos (by omega)]|rw [if_neg (by omega)]))
      (try first|rfl|(rw [show G9 p.Kind=G9 1 by rw [hc10],a1Z])|(rw [show G9 p.Kind=G9 2 by rw [hc18],a10])|(rw [show G9 p.Kind=G9 3 by rw [hc31],a11]))
     ·refine .sr a8 (.p (.D4 (.t a8) (.i a8) (.ag a8 (.nil (.o8 (.t a8) (fun hc93 => ?_) (fun hc93 => ?_))))))
      ·refine .draw (by kernel_rfl) 6 [[],[(95,0)],[],[(97,2)],[(98,3)],[]] a8 (by kernel_rfl) a8 ?_
       refine⟨_,j6.m0 j3.l4 (fun x=>x.Name) T1 a8 (fun _=>a8) (.t a8) a8,?_⟩
       refine⟨_,j6.x3 ty9 (.t a8) a8,?_⟩
       refine⟨_,j6.m0 j3.l4 (fun x=>x.Name) T1 a8 (fun _=>a8) (.t a8) a8,?_⟩
       refine⟨_,j6.x3 ty9 (.t a8) a8,?_⟩
       refine⟨_,j6.m9 hG (b3f _) (.cons (.t a8) .nil) a8,?_⟩
       refine⟨_,j6.x4 j3.l4 T1 a8 (.t a8) a8,?_⟩
       show F8 _ _ _ _ _ _ ((100,_)::(99,_)::(98,_)::(97,_)::(96,_)::(95,_)::_) _
       refine .n (.U0 (fun y x => { x with Name:=y }) ty9 (.t a8) (.t a8) .z (fun _ _=>a8) (.ag a8 (.nil (.sr a8 (.mv a8 (.mv a8 (.go 115 a8 (.t a8) (fun hg116 => .x3 A7 (.t a8) a8) (.go 115 a8 (.t a8) (fun hg117 => .I4 A7 (.t a8) .z a8) (.go 115 a8 (.t a8) (fun hg118 => .a2a X5 (by decide) a8 (by kernel_rfl) (.q a8 hg118) (.q a8 hg118) a8) (.p (.u0 (.t a8) (fun hp=>(.q a8 hp)) (.ag a8 (.nil (.ret ?_))))))))))))))
       refine⟨_,.r1 a8 (.tmp a8),?_⟩
       refine congrArg AV.v ?_
       unfold A5
       (repeat (first|rw [if_pos (by omega)]|rw [if_neg (by omega)]))
       (try first|rfl|(rw [show G9 p.Kind=G9 1 by rw [hc10],a1Z])|(rw [show G9 p.Kind=G9 2 by rw [hc18],a10])|(rw [show G9 p.Kind=G9 3 by rw [hc31],a11]))
      ·refine .sr a8 (.p (.D4 (.t a8) (.i a8) (.ag a8 (.nil (.o8 (.t a8) (fun hc101 => ?_) (fun hc101 => ?_))))))
       ·refine .E7 [j0,j1] (by kernel_rfl) 13 [[],[(103,0)],[],[(105,2)],[(106,3)],[(107,4)],[],[(109,6)],[(110,7)],[(108,5),(111,8)],[],[(113,10),(104,1)],[(112,9)]] [11] a8 (by kernel_rfl) a8 (by kernel_rfl) (by decide) ?_
        refine⟨_,fun H=>j6.m0 j3.l5 (fun x=>x.Number) Q3 a8 (fun _=>a8) (.t a8) a8,?_⟩
        refine⟨_,fun H=>j6.x3 D0 (.t a8) a8,?_⟩
        refine⟨_,fun H=>j6.m0 j3.l5 (fun x=>x.Number) Q3 a8 (fun _=>a8) (.t a8) a8,?_⟩
        refine⟨_,fun H=>j6.x3 D0 (.t a8) a8,?_⟩
        refine⟨_,fun H=>j6.geq (.t a8) (.i a8) a8,?_⟩
        refine⟨_,fun H=>j6.move (.t a8) a8,?_⟩
        refine⟨_,fun H=>⟨_,_,a8,a8,fun hg109=>j6.m0 j3.l5 (fun x=>x.Number) Q3 a8 (fun _=>a8) (.t a8) a8⟩,?_⟩
        refine⟨_,fun H=>⟨_,_,a8,a8,fun hg110=>j6.x3 D0 (.q a8 hg110) a8⟩,?_⟩
        refine⟨_,fun H=>⟨_,_,a8,a8,fun hg111=>j6.leq (.q a8 hg111) (.i a8) a8⟩,?_⟩
        refine⟨_,fun H=>j6.u0 (.t a8) (fun hp=>(.q a8 hp)) a8,?_⟩
        refine⟨_,fun H=>j6.x4 j3.l5 Q3 a8 (.t a8) a8,?_⟩
        refine .inl ?_
        refine⟨_,fun H=>j6.assign (.t a8) a8,?_⟩
        refine⟨⟨([],j2 [_,c8]),a8⟩,?_⟩
        refine A6.U0 (fun y x => { x with Number:=y }) D0 (.t rfl) (.t rfl) .z (fun _ _=>rfl) ?_
        refine⟨⟨([],j2 [_,c8]),a8⟩,?_⟩
        show F8 _ _ _ _ _ _ ((4,_)::(113,_)::(112,_)::(111,_)::(110,_)::(109,_)::(108,_)::(107,_)::(106,_)::(105,_)::(104,_)::(103,_)::_) _
        refine .nil (.sr a8 (.mv a8 (.mv a8 (.go 115 a8 (.t a8) (fun hg116 => .x3 A7 (.t a8) a8) (.go 115 a8 (.t a8) (fun hg117 => .I4 A7 (.t a8) .z a8) (.go 115 a8 (.t a8) (fun hg118 => .a2a X5 (by decide) a8 (by kernel_rfl) (.q a8 hg118) (.q a8 hg118) a8) (.p (.u0 (.t a8) (fun hp=>(.q a8 hp)) (.ag a8 (.nil (.ret ?_)))))))))))
        refine⟨_,.r1 a8 (.tmp a8),?_⟩
        refine congrArg AV.v ?_
        unfold A5
        (repeat (first|rw [if_pos (by omega)]|rw [if_neg (by omega)]))
        (try first|rfl|(rw [show G9 p.Kind=G9 1 by rw [hc10],a1Z])|(rw [show G9 p.Kind=G9 2 by rw [hc18],a10])|(rw [show G9 p.Kind=G9 3 by rw [hc31],a11]))
       ·refine .skip (.sr a8 (.mv a8 (.mv a8 (.go 115 a8 (.t a8) (fun hg116 => .x3 A7 (.t a8) a8) (.go 115 a8 (.t a8) (fun hg117 => .I4 A7 (.t a8) .z a8) (.go 115 a8 (.t a8) (fun hg118 => .a2a X5 (by decide) a8 (by kernel_rfl) (.q a8 hg118) (.q a8 hg118) a8) (.p (.u0 (.t a8) (fun hp=>(.q a8 hp)) (.ag a8 (.nil (.ret ?_)))))))))))
        refine⟨_,.r1 a8 (.tmp a8),?_⟩
        refine congrArg AV.v ?_
        unfold A5
        (repeat (first|rw [if_pos (by omega)]|rw [if_neg (by omega)]))
        (try first|rfl|(rw [show G9 p.Kind=G9 1 by rw [hc10],a1Z])|(rw [show G9 p.Kind=G9 2 by rw [hc18],a10])|(rw [show G9 p.Kind=G9 3 by rw [hc31],a11]))
def u4 (p:Pred):List UInt8:=K5 p.Kind.toNat++(if p.Kind=4∨p.Kind=5 then K5 p.J8.toNat++K5 p.To.toNat else if p.Kind=6 then K5 p.Name.l.length++p.Name.l else if p.Kind=7 then K5 p.Number.toNat else R7 p.Mask 8)
def U3 (p:Pred):List UInt8×Int:=if A5 p then (u4 p,0) else ([],5)
theorem x8 {p:Pred} (h:A5 p=true):U3 p=(u4 p,0):=by unfold U3;rw [if_pos h]
theorem A9 {p:Pred} (h:¬A5 p=true):U3 p=([],5):=by unfold U3;rw [if_neg h]
structure b7K (p:Pred):Prop where
 kind:1≤p.Kind∧p.Kind≤7
 from_:0≤p.J8∧p.J8≤67108864
 to:0≤p.To∧p.To≤67108864
 name:p.Name.l.length≤16
 num:0≤p.Number∧p.Number≤1000000
theorem L6 {p:Pred} (h:A5 p=true):b7K p:=by
 unfold A5 at h
 obtain⟨k,m,f,t,n,u⟩:=p
 dsimp only at h
 split at h
 ·next hk=>simp only [Bool.and_eq_true,decide_eq_true_eq,j3.mk.injEq] at h;obtain⟨_,_,_,rfl,rfl,rfl,rfl⟩:=h;exact⟨by dsimp only;omega,by simp,by simp,by simp,by simp⟩
 ·split at h
  ·next hk=>simp only [Bool.and_eq_true,decide_eq_true_eq,j3.mk.injEq] at h;obtain⟨h1,_,_,_,_,rfl,rfl⟩:=h;exact⟨by dsimp only;omega,by dsimp only;omega,by dsimp only;omega,by simp,by simp⟩
  ·split at h
   ·next hk=>simp only [Bool.and_eq_true,decide_eq_true_eq,j3.mk.injEq] at h;obtain⟨h1,_,_,_,_,rfl,rfl⟩:=h;exact⟨by dsimp only;omega,by dsimp only;omega,by dsimp only;omega,by simp,by simp⟩
   ·split at h
    ·next hk =>
     simp only [Bool.and_eq_true,decide_eq_true_eq,j3.mk.injEq] at h;obtain⟨h1,_,_,rfl,rfl,_,rfl⟩:=h
     unfold S8 at h1;simp only [Bool.and_eq_true,decide_eq_true_eq] at h1
     exact⟨by dsimp only;omega,by simp,by simp,by dsimp only;omega,by simp⟩
    ·split at h
     ·next hk=>simp only [Bool.and_eq_true,decide_eq_true_eq,j3.mk.injEq] at h;obtain⟨h1,_,_,rfl,rfl,rfl,_⟩:=h;exact⟨by dsimp only;omega,by simp,by simp,by simp,by dsimp only;omega⟩
     ·cases h
theorem I5 {p:Pred} (h:b7K p):(u4 p).length≤24:=by
 have l1:=A8 (n:=p.Kind.toNat) (by have:=h.kind;omega)
 have l2:=A8 (n:=p.J8.toNat) (by have:=h.from_;omega)
 have l3:=A8 (n:=p.To.toNat) (by have:=h.to;omega)
 have l4:=A8 (n:=p.Name.l.length) (by have:=h.name;omega)
 have l5:=A8 (n:=p.Number.toNat) (by have:=h.num;omega)
 have l6:=h.name
 have l0:(K5 p.Kind.toNat).length≤1:=a4K 0 _ (by have:=h.kind;omega)
 have l7:(K5 p.Name.l.length).length≤1:=a4K 0 _ (by omega)
 unfold u4
 rw [List.length_append]
 split
 ·rw [List.length_append];omega
 ·split
  ·rw [List.length_append];omega
  ·split
   ·omega
   ·rw [E1];omega
def numsL (l:List Int):List UInt8:=(l.map fun n=>K5 n.toNat).flatten
theorem a5P (l:List Int) (k:Nat) (h:k < l.length):numsL (l.take (k+1))=numsL (l.take k)++K5 (l[k]).toNat:=by
 unfold numsL;rw [List.take_succ_eq_append_getElem h,List.map_append,List.flatten_append];simp
theorem a1A (l:List Int) (h:∀ n∈l,0≤n∧n≤281474976710656):(numsL l).length≤7*l.length:=by
 induction l with
 | nil=>simp [numsL]
 | cons n l ih =>
  have h1:=A8 (n:=n.toNat) (by have:=h n (by simp);omega)
  have h2:=ih fun m hm=>h m (by simp [hm])
  unfold numsL at h2 ⊢
  rw [List.map_cons,List.flatten_cons,List.length_append,List.length_cons];omega
theorem a6o (b:List UInt8) (l:List Int) (hb:b.length≤600000) (hl:0 < l.length) (hl2:l.length≤1000) (h:∀ n∈l,0≤n∧n≤281474976710656):G5 gl Tryz.prog 194 [.v b,.v l] [] (fun r Hs=>∃ u,r = .raw u∧Hs = [.own 5 u (b++numsL l)]):=by
 refine G5.T9 Tryz.func194 rfl (by kernel_rfl) 21 rfl rfl _ rfl _ rfl fun C hC hG=>(.sr rfl (.p (.assign (.K4 (α:=UInt8)) (.nil (.seq (.seq (.name 0 rfl fun w0=>(.B2 5 .z (.region rfl (.mv rfl (.p (.len Tryz.underlying33 (.t rfl) (.p (.move (.i rfl) (.nil (.block (.F4 (α:=Nat×Value×List UInt8×Bool) [(7,_),(8,_)] (fun x R=>(0,.raw x.2.1)::(9,.v (x.1:Int))::R) (fun x => [(true,.usr x.2.1 (OF.mk 5 x.2.2.1 x.2.2.2))]) (fun x=>x.1≤l.length∧x.2.2.1=b++numsL (l.take x.1)∧(0 < x.1→x.2.2.2=true)) (fun x=>l.length - x.1) ((0,w0,b,false)) (.c2 rfl rfl (.nil _)) ?_ (.c2 rfl rfl (.c2 rfl rfl (.nil _))) (rfl) fun x hF => ?_)))))))))))))))))
 ·exact⟨Nat.zero_le _,by simp [numsL],by simp⟩
 obtain⟨k,w,c,o⟩:=x
 obtain⟨h1,h2,h3⟩:=hF
 dsimp only at h1 h2 h3 ⊢
 have hlen9:=a1A (l.take k) (fun n hn=>h n (List.mem_of_mem_take hn))
 have hc9:c.length≤607000:=(by rw [h2,List.length_append];have:(l.take k).length≤l.length:=(by simp;omega);omega)
 refine .sr a8 (.p (.lss (.t a8) (.t a8) (.nil (.seq (.o8 (.t a8) (fun hc10 => ?_) (fun hc10 => ?_))))))
 ·refine .skip (.seq (.block (.sr a8 (.p (.idx D0 Tryz.underlying33 (.t a8) (.t a8) (by omega) (by omega) (.p (.x3 D0 (.t a8) (.ag a8 (.nil (.c0F hC .z (.as 0 a8 .z (.drop (.region a8 (.mv a8 (.mv a8 (.h (.a02 hG (a1y _ _ (by simp;omega) (h _ (List.getElem_mem _)).1 (h _ (List.getElem_mem _)).2) (.cons (.t a8) (.cons (.t a8) .nil)) fun r16 Hs16 hr16 => ?_)))))))))))))))))
  obtain⟨u16,rfl,rfl⟩:=hr16
  show F8 _ _ _ _ _ _ _ ((true,_)::_)
  refine .mv a8 (.p (.E5 (.t a8) (.p (.E6 (.t a8) (.ag a8 (.nil (.c0D .z (.region a8 (.p (.add (.t a8) (.i a8) (by omega) (by omega) (.mv a8 (.nil ?_))))))))))))
  refine⟨(k+1,u16,_,true),.c2 rfl rfl (.c2 rfl rfl (.nil _)),rfl,?_,by dsimp only;omega⟩
  exact⟨by dsimp only;omega,by dsimp only;rw [a5P l k (by omega),←List.append_assoc,←h2];rfl,fun _=>rfl⟩
 ·refine .exit (.seq (.c0E (h3 (by omega)) .z (.region a8 (.mv a8 (.ag a8 (.nil (.ret ?_)))))))
  refine⟨_,.r1 a8 (.tmp a8),?_⟩
  refine⟨_,.cons .z (.nil),?_⟩
  exact⟨_,rfl,by rw [h2,List.take_of_length_le (by omega)]⟩
theorem a33 (b:List UInt8) (l:List Int) (hb:b.length≤600000) (hl:0 < l.length) (hl2:l.length≤1000) (h:∀ n∈l,0≤n∧n≤281474976710656):u1 gl Tryz.prog 194 [.v b,.v l] (fun r=>r = .v (b++numsL l)):=(a6o b l hb hl hl2 h).b0C
theorem a60 (p:Pred):u1 gl Tryz.prog 159 [.v p] (fun r=>r = .t2 (.v (U3 p).1) (.v (U3 p).2)):=by
 refine u1.intro Tryz.func159 rfl (by kernel_rfl) 54 rfl rfl _ rfl fun C hC hG=>(.sr rfl (.h (.box (.t rfl) fun b1 => .p (.assign (.K4 (α:=UInt8)) (.p (.assign (.i rfl) (.nil (.seq (.seq (.B0 hC .z (.Q5 1 rfl .z (.region rfl (.p (.x3 A7 (.t rfl) (.p (.m9 hG (a4L _) (.cons (.t rfl) .nil) (.p (.not (.t rfl) (.nil (.cond (.t rfl) (fun hc8 => ?_) (fun hc8 => ?_)))))))))))))))))))))
 ·refine .sr a8 (.p (.assign (.K4 (α:=UInt8)) (.p (.assign (.i a8) (.nil (.ret ?_))))))
  refine⟨_,.r2 a8 (.tmp a8) (.tmp a8),?_⟩
  first|(exfalso;omega)|(rw [A9 (by simpa using hc8)])|(rw [x8 hpo];unfold u4;(repeat (first|rw [if_pos (by omega)]|rw [if_neg (by omega)]));(try simp [numsL]);done)|(obtain rfl:j=8:=(by omega);rw [x8 hpo];unfold u4;(repeat (first|rw [if_pos (by omega)]|rw [if_neg (by omega)]));simp [numsL])
 ·refine .skip (.seq ?_)
  have hpo:A5 p=true:=by simpa using hc8
  have hp:=L6 hpo
  have hp4:=hp.name
  have hk1:(numsL [p.Kind]).length≤7:=a1A [p.Kind] (by have:=hp.kind;simp;omega)
  refine .region a8 (.p (.m0 j3.l0 (fun x=>x.Kind) U8 a8 (fun _=>a8) (.t a8) (.p (.x3 D0 (.t a8) (.h (.buildSlice (α:=Int) D0 Tryz.underlying33 (.cons (.t a8) .nil) a8 (by decide) fun b11=>(.y0 hC .z (.as 11 a8 .z (.h (.a02 hG (a6o _ _ (by decide) (by simp) (by simp) (by have:=hp.kind;simp;omega)) (.cons .K4 (.cons (.t a8) .nil)) fun r12 Hs12 hr12 => ?_))))))))))
  obtain⟨u12,rfl,rfl⟩:=hr12
  show F8 _ _ _ _ _ _ _ ((true,_)::_)
  refine .ag a8 (.nil (.seq (.sr a8 (.p (.m0 j3.l0 (fun x=>x.Kind) U8 a8 (fun _=>a8) (.t a8) (.p (.x3 D0 (.t a8) (.nil (.block (.seq (.sr a8 (.p (.D4 (.t a8) (.i a8) (.ag a8 (.nil (.o8 (.t a8) (fun hc15 => ?_) (fun hc15 => ?_)))))))))))))))))
  ·refine .skip (.o8 (.t a8) (fun hc15 => ?_) (fun hc15 => ?_))
   ·refine .seq (.y0 hC .z (.as 4 a8 .z (.region a8 (.mv a8 (.p (.m0 j3.l2 (fun x=>x.J8) G0 a8 (fun _=>a8) (.t a8) (.p (.x3 D0 (.t a8) (.p (.m0 j3.l3 (fun x=>x.To) G1 a8 (fun _=>a8) (.t a8) (.p (.x3 D0 (.t a8) (.h (.buildSlice (α:=Int) D0 Tryz.underlying33 (.cons (.t a8) (.cons (.t a8) .nil)) a8 (by decide) fun b23=>(.y0 hC .z (.as 23 a8 .z (.p (.m9 hG (a33 _ _ (by simp;omega) (by simp) (by simp) (by have:=hp.from_;have:=hp.to;simp;omega)) (.cons (.t a8) (.cons (.t a8) .nil)) (.ag a8 (.p (.assign (.i a8) (.nil (.ret ?_)))))))))))))))))))))))
    refine⟨_,.r2 a8 (.tmp a8) (.tmp a8),?_⟩
    first|(exfalso;omega)|(rw [A9 (by simpa using hc8)])|(rw [x8 hpo];unfold u4;(repeat (first|rw [if_pos (by omega)]|rw [if_neg (by omega)]));(try simp [numsL]);done)|(obtain rfl:j=8:=(by omega);rw [x8 hpo];unfold u4;(repeat (first|rw [if_pos (by omega)]|rw [if_neg (by omega)]));simp [numsL])
   ·refine .sr a8 (.p (.D4 (.t a8) (.i a8) (.ag a8 (.nil (.o8 (.t a8) (fun hc25 => ?_) (fun hc25 => ?_))))))
    ·refine .seq (.y0 hC .z (.as 4 a8 .z (.region a8 (.mv a8 (.p (.m0 j3.l4 (fun x=>x.Name) T1 a8 (fun _=>a8) (.t a8) (.p (.x3 ty9 (.t a8) (.h (.W9 Tryz.underlying9 Tryz.underlying86 Tryz.underlying5 (.t a8) fun w30=>(.y0 hC .z (.as 30 a8 .z (.p (.m9 hG (b0G _ _ (by omega) (by omega)) (.cons (.t a8) (.cons (.t a8) .nil)) (.p (.E5 (.t a8) (.p (.E6 (.t a8) (.ag a8 (.ag a8 (.nil (.ret ?_))))))))))))))))))))))
     refine⟨_,.r2 a8 (.tmp a8) (.tmp a8),?_⟩
     first|(exfalso;omega)|(rw [A9 (by simpa using hc8)])|(rw [x8 hpo];unfold u4;(repeat (first|rw [if_pos (by omega)]|rw [if_neg (by omega)]));(try simp [numsL]);done)|(obtain rfl:j=8:=(by omega);rw [x8 hpo];unfold u4;(repeat (first|rw [if_pos (by omega)]|rw [if_neg (by omega)]));simp [numsL])
    ·refine .sr a8 (.p (.D4 (.t a8) (.i a8) (.ag a8 (.nil (.o8 (.t a8) (fun hc34 => ?_) (fun hc34 => ?_))))))
     ·refine .seq (.y0 hC .z (.as 4 a8 .z (.region a8 (.mv a8 (.p (.m0 j3.l5 (fun x=>x.Number) Q3 a8 (fun _=>a8) (.t a8) (.p (.x3 D0 (.t a8) (.h (.buildSlice (α:=Int) D0 Tryz.underlying33 (.cons (.t a8) .nil) a8 (by decide) fun b39=>(.y0 hC .z (.as 39 a8 .z (.p (.m9 hG (a33 _ _ (by simp;omega) (by simp) (by simp) (by have:=hp.num;simp;omega)) (.cons (.t a8) (.cons (.t a8) .nil)) (.ag a8 (.p (.assign (.i a8) (.nil (.ret ?_)))))))))))))))))))
      refine⟨_,.r2 a8 (.tmp a8) (.tmp a8),?_⟩
      first|(exfalso;omega)|(rw [A9 (by simpa using hc8)])|(rw [x8 hpo];unfold u4;(repeat (first|rw [if_pos (by omega)]|rw [if_neg (by omega)]));(try simp [numsL]);done)|(obtain rfl:j=8:=(by omega);rw [x8 hpo];unfold u4;(repeat (first|rw [if_pos (by omega)]|rw [if_neg (by omega)]));simp [numsL])
     ·refine .skip (.seq (.sr a8 (.p (.assign (.i a8) (.nil (.block (.F4 (α:=Nat×Value) [(1,_)] (fun x R=>(4,.raw x.2)::(5,.v (56 - 8*(x.1:Int)))::R) (fun x => [(true,.own 5 x.2 (numsL [p.Kind]++R7 p.Mask x.1)),(true,.fz (slc b11 0 1 1) (.v [p.Kind])),(true,.fz (ptr b1 0) (.p p))]) (fun x=>x.1≤8) (fun x=>8 - x.1) ((0,u12)) (.cons a8 (.nil _)) ?_ (.c2 a8 a8 (.cons a8 (.nil _))) (congrArg (fun q => [(true,E9.own _ _ q),_,_]) (by simp [R7])) fun x hF => ?_)))))))
      ·simp
      obtain⟨j,w⟩:=x
      dsimp only at hF ⊢
      have hk2:=E1 p.Mask j
      refine .seq (.sr a8 (.mv a8 (.p (.geq (.t a8) (.i a8) (.nil (.o8 (.t a8) (fun hc42 => ?_) (fun hc42 => ?_)))))))
      ·refine .skip (.seq (.block (.region a8 (.mv a8 (.p (.m0 j3.l1 (fun x=>x.Mask) O2 a8 (fun _=>a8) (.t a8) (.p (.x3 a1i (.t a8) (.mv a8 (.p (.b3q (.t a8) (.t a8) (by omega) (by omega) (.p (.a2r Tryz.underlying77 Tryz.underlying5 (.t a8) (.h (.buildSlice (α:=UInt8) U1 Tryz.underlying86 (.cons (.t a8) .nil) a8 (by decide) fun b51 => .h (.append F5 (.inl ⟨_,Tryz.underlying86⟩) a8 .z1 (.own a8 .z) (by omega) (by omega) (fun w52 => .ag a8 ?_) a8))))))))))))))))
       refine .drop (.nil (.region a8 (.mv a8 (.p (.sub (.t a8) (.i a8) (by omega) (by omega) (.ag a8 (.nil ?_)))))))
       refine⟨(j+1,w52),.cons rfl (.cons (congrArg (fun q=>some (AV.v q)) (by dsimp only;omega)) (.cons rfl (.nil _))),congrArg (fun q => [(true,E9.own _ _ q),_,_]) (by dsimp only;rw [a1u,show(56 - 8*(j:Int)).toNat=56 - 8*j by omega];try simp),?_,by dsimp only;omega⟩
       dsimp only;omega
      ·refine .exit (.seq (.y0 hC .z (.as 4 a8 .z (.region a8 (.mv a8 (.ag a8 (.p (.assign (.i a8) (.nil (.ret ?_))))))))))
       refine⟨_,.r2 a8 (.tmp a8) (.tmp a8),?_⟩
       first|(exfalso;omega)|(rw [A9 (by simpa using hc8)])|(rw [x8 hpo];unfold u4;(repeat (first|rw [if_pos (by omega)]|rw [if_neg (by omega)]));(try simp [numsL]);done)|(obtain rfl:j=8:=(by omega);rw [x8 hpo];unfold u4;(repeat (first|rw [if_pos (by omega)]|rw [if_neg (by omega)]));simp [numsL])
  ·refine .region a8 (.p (.D4 (.t a8) (.i a8) (.ag a8 (.nil (.o8 (.t a8) (fun hc15 => ?_) (fun hc15 => ?_))))))
   ·refine .seq (.y0 hC .z (.as 4 a8 .z (.region a8 (.mv a8 (.p (.m0 j3.l2 (fun x=>x.J8) G0 a8 (fun _=>a8) (.t a8) (.p (.x3 D0 (.t a8) (.p (.m0 j3.l3 (fun x=>x.To) G1 a8 (fun _=>a8) (.t a8) (.p (.x3 D0 (.t a8) (.h (.buildSlice (α:=Int) D0 Tryz.underlying33 (.cons (.t a8) (.cons (.t a8) .nil)) a8 (by decide) fun b23=>(.y0 hC .z (.as 23 a8 .z (.p (.m9 hG (a33 _ _ (by simp;omega) (by simp) (by simp) (by have:=hp.from_;have:=hp.to;simp;omega)) (.cons (.t a8) (.cons (.t a8) .nil)) (.ag a8 (.p (.assign (.i a8) (.nil (.ret ?_)))))))))))))))))))))))
    refine⟨_,.r2 a8 (.tmp a8) (.tmp a8),?_⟩
    first|(exfalso;omega)|(rw [A9 (by simpa using hc8)])|(rw [x8 hpo];unfold u4;(repeat (first|rw [if_pos (by omega)]|rw [if_neg (by omega)]));(try simp [numsL]);done)|(obtain rfl:j=8:=(by omega);rw [x8 hpo];unfold u4;(repeat (first|rw [if_pos (by omega)]|rw [if_neg (by omega)]));simp [numsL])
   ·refine .sr a8 (.p (.D4 (.t a8) (.i a8) (.ag a8 (.nil (.o8 (.t a8) (fun hc25 => ?_) (fun hc25 => ?_))))))
    ·refine .seq (.y0 hC .z (.as 4 a8 .z (.region a8 (.mv a8 (.p (.m0 j3.l4 (fun x=>x.Name) T1 a8 (fun _=>a8) (.t a8) (.p (.x3 ty9 (.t a8) (.h (.W9 Tryz.underlying9 Tryz.underlying86 Tryz.underlying5 (.t a8) fun w30=>(.y0 hC .z (.as 30 a8 .z (.p (.m9 hG (b0G _ _ (by simp;omega) (by omega)) (.cons (.t a8) (.cons (.t a8) .nil)) (.p (.E5 (.t a8) (.p (.E6 (.t a8) (.ag a8 (.ag a8 (.nil (.ret ?_))))))))))))))))))))))
     refine⟨_,.r2 a8 (.tmp a8) (.tmp a8),?_⟩
     first|(exfalso;omega)|(rw [A9 (by simpa using hc8)])|(rw [x8 hpo];unfold u4;(repeat (first|rw [if_pos (by omega)]|rw [if_neg (by omega)]));(try simp [numsL]);done)|(obtain rfl:j=8:=(by omega);rw [x8 hpo];unfold u4;(repeat (first|rw [if_pos (by omega)]|rw [if_neg (by omega)]));simp [numsL])
    ·refine .sr a8 (.p (.D4 (.t a8) (.i a8) (.ag a8 (.nil (.o8 (.t a8) (fun hc34 => ?_) (fun hc34 => ?_))))))
     ·refine .seq (.y0 hC .z (.as 4 a8 .z (.region a8 (.mv a8 (.p (.m0 j3.l5 (fun x=>x.Number) Q3 a8 (fun _=>a8) (.t a8) (.p (.x3 D0 (.t a8) (.h (.buildSlice (α:=Int) D0 Tryz.underlying33 (.cons (.t a8) .nil) a8 (by decide) fun b39=>(.y0 hC .z (.as 39 a8 .z (.p (.m9 hG (a33 _ _ (by simp;omega) (by simp) (by simp) (by have:=hp.num;simp;omega)) (.cons (.t a8) (.cons (.t a8) .nil)) (.ag a8 (.p (.assign (.i a8) (.nil (.ret ?_)))))))))))))))))))
      refine⟨_,.r2 a8 (.tmp a8) (.tmp a8),?_⟩
      first|(exfalso;omega)|(rw [A9 (by simpa using hc8)])|(rw [x8 hpo];unfold u4;(repeat (first|rw [if_pos (by omega)]|rw [if_neg (by omega)]));(try simp [numsL]);done)|(obtain rfl:j=8:=(by omega);rw [x8 hpo];unfold u4;(repeat (first|rw [if_pos (by omega)]|rw [if_neg (by omega)]));simp [numsL])
     ·refine .skip (.seq (.sr a8 (.p (.assign (.i a8) (.nil (.block (.F4 (α:=Nat×Value) [(1,_)] (fun x R=>(4,.raw x.2)::(5,.v (56 - 8*(x.1:Int)))::R) (fun x => [(true,.own 5 x.2 (numsL [p.Kind]++R7 p.Mask x.1)),(true,.fz (slc b11 0 1 1) (.v [p.Kind])),(true,.fz (ptr b1 0) (.p p))]) (fun x=>x.1≤8) (fun x=>8 - x.1) ((0,u12)) (.cons a8 (.nil _)) ?_ (.c2 a8 a8 (.cons a8 (.nil _))) (congrArg (fun q => [(true,E9.own _ _ q),_,_]) (by simp [R7])) fun x hF => ?_)))))))
      ·simp
      obtain⟨j,w⟩:=x
      dsimp only at hF ⊢
      have hk2:=E1 p.Mask j
      refine .seq (.sr a8 (.mv a8 (.p (.geq (.t a8) (.i a8) (.nil (.o8 (.t a8) (fun hc42 => ?_) (fun hc42 => ?_)))))))
      ·refine .skip (.seq (.block (.region a8 (.mv a8 (.p (.m0 j3.l1 (fun x=>x.Mask) O2 a8 (fun _=>a8) (.t a8) (.p (.x3 a1i (.t a8) (.mv a8 (.p (.b3q (.t a8) (.t a8) (by omega) (by omega) (.p (.a2r Tryz.underlying77 Tryz.underlying5 (.t a8) (.h (.buildSlice (α:=UInt8) U1 Tryz.underlying86 (.cons (.t a8) .nil) a8 (by decide) fun b51 => .h (.append F5 (.inl ⟨_,Tryz.underlying86⟩) a8 .z1 (.own a8 .z) (by simp;omega) (by simp;omega) (fun w52 => .ag a8 ?_) a8))))))))))))))))
       refine .drop (.nil (.region a8 (.mv a8 (.p (.sub (.t a8) (.i a8) (by omega) (by omega) (.ag a8 (.nil ?_)))))))
       refine⟨(j+1,w52),.cons rfl (.cons (congrArg (fun q=>some (AV.v q)) (by dsimp only;omega)) (.cons rfl (.nil _))),congrArg (fun q => [(true,E9.own _ _ q),_,_]) (by dsimp only;rw [a1u,show(56 - 8*(j:Int)).toNat=56 - 8*j by omega];try simp),?_,by dsimp only;omega⟩
       dsimp only;omega
      ·refine .exit (.seq (.y0 hC .z (.as 4 a8 .z (.region a8 (.mv a8 (.ag a8 (.p (.assign (.i a8) (.nil (.ret ?_))))))))))
       refine⟨_,.r2 a8 (.tmp a8) (.tmp a8),?_⟩
       first|(exfalso;omega)|(rw [A9 (by simpa using hc8)])|(rw [x8 hpo];unfold u4;(repeat (first|rw [if_pos (by omega)]|rw [if_neg (by omega)]));(try simp [numsL]);done)|(obtain rfl:j=8:=(by omega);rw [x8 hpo];unfold u4;(repeat (first|rw [if_pos (by omega)]|rw [if_neg (by omega)]));simp [numsL])
theorem a5Q (p:Pred):u1 gl Tryz.prog 169 [.v p] (fun r=>r = .t2 (.v (U3 p).1) (.v (U3 p).2)):=by
 refine u1.intro Tryz.func169 rfl (by kernel_rfl) 50 rfl rfl _ rfl fun C hC hG=>(.sr rfl (.h (.box (.t rfl) fun b1 => .p (.assign (.K4 (α:=UInt8)) (.p (.assign (.i rfl) (.nil (.seq (.seq (.B0 hC .z (.Q5 1 rfl .z (.region rfl (.p (.x3 A7 (.t rfl) (.p (.m9 hG (a08 _) (.cons (.t rfl) .nil) (.p (.not (.t rfl) (.nil (.cond (.t rfl) (fun hc7 => ?_) (fun hc7 => ?_)))))))))))))))))))))
 ·refine .sr a8 (.p (.assign (.K4 (α:=UInt8)) (.p (.assign (.i a8) (.nil (.ret ?_))))))
  refine⟨_,.r2 a8 (.tmp a8) (.tmp a8),?_⟩
  first|(exfalso;omega)|(rw [A9 (by simpa using hc7)])|(rw [x8 hpo];unfold u4;(repeat (first|rw [if_pos (by omega)]|rw [if_neg (by omega)]));(try simp);done)
 ·refine .skip (.seq ?_)
  have hpo:A5 p=true:=by simpa using hc7
  have hp:=L6 hpo
  have hpk:=hp.kind
  refine .region a8 (.p (.m0 j3.l0 (fun x=>x.Kind) U8 a8 (fun _=>a8) (.t a8) (.p (.x3 D0 (.t a8) (.h (.a02 hG (a2X _ (by omega) (by omega)) (.cons (.t a8) .nil) fun r10 Hs10 hr10 => ?_))))))
  obtain⟨u10,rfl,rfl⟩:=hr10
  show F8 _ _ _ _ _ _ _ ((true,_)::_)
  refine .ag a8 (.nil (.seq (.seq ?_)))
  have hk2:=E1 p.Mask 8
  have hp1:=hp.from_
  have hp2:=hp.to
  have hp3:=hp.num
  have hp4:=hp.name
  have hk1:=A8 (n:=p.Kind.toNat) (by omega)
  have hk3:=A8 (n:=p.J8.toNat) (by omega)
  have hk4:=A8 (n:=p.To.toNat) (by omega)
  have hk5:=A8 (n:=p.Number.toNat) (by omega)
  have hk6:=A8 (n:=p.Name.l.length) (by omega)
  refine .region a8 (.p (.m0 j3.l0 (fun x=>x.Kind) U8 a8 (fun _=>a8) (.t a8) (.p (.x3 D0 (.t a8) (.nil (.block (.seq (.sr a8 (.p (.D4 (.t a8) (.i a8) (.ag a8 (.nil (.o8 (.t a8) (fun hc13 => ?_) (fun hc13 => ?_))))))))))))))
  ·refine .skip (.o8 (.t a8) (fun hc13 => ?_) (fun hc13 => ?_))
   ·refine .region a8 (.mv a8 (.p (.m0 j3.l1 (fun x=>x.Mask) O2 a8 (fun _=>a8) (.t a8) (.p (.x3 a1i (.t a8) (.p (.m9 hG ((a2G _).b0C) (.cons (.t a8) .nil) (.h (.append F5 (.inl ⟨_,Tryz.underlying86⟩) a8 .z (.v (.t a8)) (by omega) (by omega) (fun w21 => .ag a8 ?_) a8)))))))))
    refine .nil (.seq (.y0 hC .z (.as 4 a8 .z (.region a8 (.mv a8 (.ag a8 (.p (.assign (.i a8) (.nil (.ret ?_))))))))))
    refine⟨_,.r2 a8 (.tmp a8) (.tmp a8),?_⟩
    first|(exfalso;omega)|(rw [A9 (by simpa using hc7)])|(rw [x8 hpo];unfold u4;(repeat (first|rw [if_pos (by omega)]|rw [if_neg (by omega)]));(try simp);done)
   ·refine .seq (.sr a8 (.p (.D4 (.t a8) (.i a8) (.ag a8 (.nil (.o8 (.t a8) (fun hc22 => ?_) (fun hc22 => ?_)))))))
    ·refine .skip (.o8 (.t a8) (fun hc22 => ?_) (fun hc22 => ?_))
     ·refine .E7 [j0,j1] (by kernel_rfl) 10 [[],[],[(26,1)],[(27,2)],[(25,0),(28,3)],[],[(30,5)],[(31,6)],[(29,4),(32,7)],[(33,8)]] [0,4,8,9] a8 (by kernel_rfl) a8 (by kernel_rfl) (by decide) (.inl ?_)
      refine⟨_,fun H=>j6.m0 j3.l2 (fun x=>x.J8) G0 a8 (fun _=>a8) (.t a8) a8,?_⟩
      refine⟨_,fun H=>j6.x3 D0 (.t a8) a8,?_⟩
      refine⟨_,fun H=>j6.m9 hG (F0 _ (by omega) (by omega)) (.cons (.t a8) .nil) a8,?_⟩
      refine .inl ?_
      refine⟨_,fun H=>j6.m0 j3.l3 (fun x=>x.To) G1 a8 (fun _=>a8) (.t a8) a8,?_⟩
      refine⟨_,fun H=>j6.x3 D0 (.t a8) a8,?_⟩
      refine⟨_,fun H=>j6.m9 hG (F0 _ (by omega) (by omega)) (.cons (.t a8) .nil) a8,?_⟩
      refine .inl (.inl ?_)
      refine⟨⟨([],j2 [_,c8]),a8⟩,?_⟩
      refine A6.ofP (j6.move (.t rfl) ?_)
      refine⟨⟨([],j2 [_,c8]),a8⟩,?_⟩
      refine A6.append F5 (.inl ⟨_,Tryz.underlying86⟩) rfl .z (.v (.t rfl)) (by omega) (by omega) (fun w29 => ?_) rfl
      refine⟨⟨([],j2 [_,c8]),a8⟩,?_⟩
      refine A6.append F5 (.inl ⟨_,Tryz.underlying86⟩) rfl .z (.v (.t rfl)) (by omega) (by omega) (fun w33 => ?_) rfl
      refine⟨⟨([],j2 [_,c8]),a8⟩,?_⟩
      refine A6.ofP (j6.assign (.t rfl) ?_)
      refine⟨⟨([],j2 [_,c8]),a8⟩,?_⟩
      show F8 _ _ _ _ _ _ ((4,_)::(33,_)::(32,_)::(31,_)::(30,_)::(29,_)::(28,_)::(27,_)::(26,_)::(25,_)::_) _
      refine .nil (.seq (.y0 hC .z (.as 4 a8 .z (.region a8 (.mv a8 (.ag a8 (.p (.assign (.i a8) (.nil (.ret ?_))))))))))
      refine⟨_,.r2 a8 (.tmp a8) (.tmp a8),?_⟩
      first|(exfalso;omega)|(rw [A9 (by simpa using hc7)])|(rw [x8 hpo];unfold u4;(repeat (first|rw [if_pos (by omega)]|rw [if_neg (by omega)]));(try simp);done)
     ·refine .sr a8 (.p (.D4 (.t a8) (.i a8) (.ag a8 (.nil (.o8 (.t a8) (fun hc34 => ?_) (fun hc34 => ?_))))))
      ·refine .region a8 (.mv a8 (.p (.m0 j3.l4 (fun x=>x.Name) T1 a8 (fun _=>a8) (.t a8) (.p (.x3 ty9 (.t a8) (.h (.W9 Tryz.underlying9 Tryz.underlying86 Tryz.underlying5 (.t a8) fun w39=>(.y0 hC .z (.as 39 a8 .z (.p (.m9 hG (a06 _ (by omega)) (.cons (.t a8) .nil) (.h (.append F5 (.inl ⟨_,Tryz.underlying86⟩) a8 .z1 (.v (.t a8)) (by omega) (by omega) (fun w41 => .ag a8 ?_) a8)))))))))))))
       refine .nil (.seq (.y0 hC .z1 (.as 4 a8 .z1 (.region a8 (.mv a8 (.ag a8 (.p (.assign (.i a8) (.nil (.ret ?_))))))))))
       refine⟨_,.r2 a8 (.tmp a8) (.tmp a8),?_⟩
       first|(exfalso;omega)|(rw [A9 (by simpa using hc7)])|(rw [x8 hpo];unfold u4;(repeat (first|rw [if_pos (by omega)]|rw [if_neg (by omega)]));(try simp);done)
      ·refine .sr a8 (.p (.D4 (.t a8) (.i a8) (.ag a8 (.nil (.o8 (.t a8) (fun hc42 => ?_) (fun hc42 => ?_))))))
       ·refine .region a8 (.mv a8 (.p (.m0 j3.l5 (fun x=>x.Number) Q3 a8 (fun _=>a8) (.t a8) (.p (.x3 D0 (.t a8) (.p (.m9 hG (F0 _ (by omega) (by omega)) (.cons (.t a8) .nil) (.h (.append F5 (.inl ⟨_,Tryz.underlying86⟩) a8 .z (.v (.t a8)) (by omega) (by omega) (fun w48 => .ag a8 ?_) a8)))))))))
        refine .nil (.seq (.y0 hC .z (.as 4 a8 .z (.region a8 (.mv a8 (.ag a8 (.p (.assign (.i a8) (.nil (.ret ?_))))))))))
        refine⟨_,.r2 a8 (.tmp a8) (.tmp a8),?_⟩
        first|(exfalso;omega)|(rw [A9 (by simpa using hc7)])|(rw [x8 hpo];unfold u4;(repeat (first|rw [if_pos (by omega)]|rw [if_neg (by omega)]));(try simp);done)
       ·refine .skip (.seq (.y0 hC .z (.as 4 a8 .z (.region a8 (.mv a8 (.ag a8 (.p (.assign (.i a8) (.nil (.ret ?_))))))))))
        refine⟨_,.r2 a8 (.tmp a8) (.tmp a8),?_⟩
        first|(exfalso;omega)|(rw [A9 (by simpa using hc7)])|(rw [x8 hpo];unfold u4;(repeat (first|rw [if_pos (by omega)]|rw [if_neg (by omega)]));(try simp);done)
    ·refine .region a8 (.p (.D4 (.t a8) (.i a8) (.ag a8 (.nil (.o8 (.t a8) (fun hc22 => ?_) (fun hc22 => ?_))))))
     ·refine .E7 [j0,j1] (by kernel_rfl) 10 [[],[],[(26,1)],[(27,2)],[(25,0),(28,3)],[],[(30,5)],[(31,6)],[(29,4),(32,7)],[(33,8)]] [0,4,8,9] a8 (by kernel_rfl) a8 (by kernel_rfl) (by decide) (.inl ?_)
      refine⟨_,fun H=>j6.m0 j3.l2 (fun x=>x.J8) G0 a8 (fun _=>a8) (.t a8) a8,?_⟩
      refine⟨_,fun H=>j6.x3 D0 (.t a8) a8,?_⟩
      refine⟨_,fun H=>j6.m9 hG (F0 _ (by omega) (by omega)) (.cons (.t a8) .nil) a8,?_⟩
      refine .inl ?_
      refine⟨_,fun H=>j6.m0 j3.l3 (fun x=>x.To) G1 a8 (fun _=>a8) (.t a8) a8,?_⟩
      refine⟨_,fun H=>j6.x3 D0 (.t a8) a8,?_⟩
      refine⟨_,fun H=>j6.m9 hG (F0 _ (by omega) (by omega)) (.cons (.t a8) .nil) a8,?_⟩
      refine .inl (.inl ?_)
      refine⟨⟨([],j2 [_,c8]),a8⟩,?_⟩
      refine A6.ofP (j6.move (.t rfl) ?_)
      refine⟨⟨([],j2 [_,c8]),a8⟩,?_⟩
      refine A6.append F5 (.inl ⟨_,Tryz.underlying86⟩) rfl .z (.v (.t rfl)) (by omega) (by omega) (fun w29 => ?_) rfl
      refine⟨⟨([],j2 [_,c8]),a8⟩,?_⟩
      refine A6.append F5 (.inl ⟨_,Tryz.underlying86⟩) rfl .z (.v (.t rfl)) (by omega) (by omega) (fun w33 => ?_) rfl
      refine⟨⟨([],j2 [_,c8]),a8⟩,?_⟩
      refine A6.ofP (j6.assign (.t rfl) ?_)
      refine⟨⟨([],j2 [_,c8]),a8⟩,?_⟩
      show F8 _ _ _ _ _ _ ((4,_)::(33,_)::(32,_)::(31,_)::(30,_)::(29,_)::(28,_)::(27,_)::(26,_)::(25,_)::_) _
      refine .nil (.seq (.y0 hC .z (.as 4 a8 .z (.region a8 (.mv a8 (.ag a8 (.p (.assign (.i a8) (.nil (.ret ?_))))))))))
      refine⟨_,.r2 a8 (.tmp a8) (.tmp a8),?_⟩
      first|(exfalso;omega)|(rw [A9 (by simpa using hc7)])|(rw [x8 hpo];unfold u4;(repeat (first|rw [if_pos (by omega)]|rw [if_neg (by omega)]));(try simp);done)
     ·refine .sr a8 (.p (.D4 (.t a8) (.i a8) (.ag a8 (.nil (.o8 (.t a8) (fun hc34 => ?_) (fun hc34 => ?_))))))
      ·refine .region a8 (.mv a8 (.p (.m0 j3.l4 (fun x=>x.Name) T1 a8 (fun _=>a8) (.t a8) (.p (.x3 ty9 (.t a8) (.h (.W9 Tryz.underlying9 Tryz.underlying86 Tryz.underlying5 (.t a8) fun w39=>(.y0 hC .z (.as 39 a8 .z (.p (.m9 hG (a06 _ (by omega)) (.cons (.t a8) .nil) (.h (.append F5 (.inl ⟨_,Tryz.underlying86⟩) a8 .z1 (.v (.t a8)) (by omega) (by omega) (fun w41 => .ag a8 ?_) a8)))))))))))))
       refine .nil (.seq (.y0 hC .z1 (.as 4 a8 .z1 (.region a8 (.mv a8 (.ag a8 (.p (.assign (.i a8) (.nil (.ret ?_))))))))))
       refine⟨_,.r2 a8 (.tmp a8) (.tmp a8),?_⟩
       first|(exfalso;omega)|(rw [A9 (by simpa using hc7)])|(rw [x8 hpo];unfold u4;(repeat (first|rw [if_pos (by omega)]|rw [if_neg (by omega)]));(try simp);done)
      ·refine .sr a8 (.p (.D4 (.t a8) (.i a8) (.ag a8 (.nil (.o8 (.t a8) (fun hc42 => ?_) (fun hc42 => ?_))))))
       ·refine .region a8 (.mv a8 (.p (.m0 j3.l5 (fun x=>x.Number) Q3 a8 (fun _=>a8) (.t a8) (.p (.x3 D0 (.t a8) (.p (.m9 hG (F0 _ (by omega) (by omega)) (.cons (.t a8) .nil) (.h (.append F5 (.inl ⟨_,Tryz.underlying86⟩) a8 .z (.v (.t a8)) (by omega) (by omega) (fun w48 => .ag a8 ?_) a8)))))))))
        refine .nil (.seq (.y0 hC .z (.as 4 a8 .z (.region a8 (.mv a8 (.ag a8 (.p (.assign (.i a8) (.nil (.ret ?_))))))))))
        refine⟨_,.r2 a8 (.tmp a8) (.tmp a8),?_⟩
        first|(exfalso;omega)|(rw [A9 (by simpa using hc7)])|(rw [x8 hpo];unfold u4;(repeat (first|rw [if_pos (by omega)]|rw [if_neg (by omega)]));(try simp);done)
       ·refine .skip (.seq (.y0 hC .z (.as 4 a8 .z (.region a8 (.mv a8 (.ag a8 (.p (.assign (.i a8) (.nil (.ret ?_))))))))))
        refine⟨_,.r2 a8 (.tmp a8) (.tmp a8),?_⟩
        first|(exfalso;omega)|(rw [A9 (by simpa using hc7)])|(rw [x8 hpo];unfold u4;(repeat (first|rw [if_pos (by omega)]|rw [if_neg (by omega)]));(try simp);done)
  ·refine .sr a8 (.p (.D4 (.t a8) (.i a8) (.ag a8 (.nil (.o8 (.t a8) (fun hc13 => ?_) (fun hc13 => ?_))))))
   ·refine .skip (.o8 (.t a8) (fun hc13 => ?_) (fun hc13 => ?_))
    ·refine .region a8 (.mv a8 (.p (.m0 j3.l1 (fun x=>x.Mask) O2 a8 (fun _=>a8) (.t a8) (.p (.x3 a1i (.t a8) (.p (.m9 hG ((a2G _).b0C) (.cons (.t a8) .nil) (.h (.append F5 (.inl ⟨_,Tryz.underlying86⟩) a8 .z (.v (.t a8)) (by omega) (by omega) (fun w21 => .ag a8 ?_) a8)))))))))
     refine .nil (.seq (.y0 hC .z (.as 4 a8 .z (.region a8 (.mv a8 (.ag a8 (.p (.assign (.i a8) (.nil (.ret ?_))))))))))
     refine⟨_,.r2 a8 (.tmp a8) (.tmp a8),?_⟩
     first|(exfalso;omega)|(rw [A9 (by simpa using hc7)])|(rw [x8 hpo];unfold u4;(repeat (first|rw [if_pos (by omega)]|rw [if_neg (by omega)]));(try simp);done)
    ·refine .seq (.sr a8 (.p (.D4 (.t a8) (.i a8) (.ag a8 (.nil (.o8 (.t a8) (fun hc22 => ?_) (fun hc22 => ?_)))))))
     ·refine .skip (.o8 (.t a8) (fun hc22 => ?_) (fun hc22 => ?_))
      ·refine .E7 [j0,j1] (by kernel_rfl) 10 [[],[],[(26,1)],[(27,2)],[(25,0),(28,3)],[],[(30,5)],[(31,6)],[(29,4),(32,7)],[(33,8)]] [0,4,8,9] a8 (by kernel_rfl) a8 (by kernel_rfl) (by decide) (.inl ?_)
       refine⟨_,fun H=>j6.m0 j3.l2 (fun x=>x.J8) G0 a8 (fun _=>a8) (.t a8) a8,?_⟩
       refine⟨_,fun H=>j6.x3 D0 (.t a8) a8,?_⟩
       refine⟨_,fun H=>j6.m9 hG (F0 _ (by omega) (by omega)) (.cons (.t a8) .nil) a8,?_⟩
       refine .inl ?_
       refine⟨_,fun H=>j6.m0 j3.l3 (fun x=>x.To) G1 a8 (fun _=>a8) (.t a8) a8,?_⟩
       refine⟨_,fun H=>j6.x3 D0 (.t a8) a8,?_⟩
       refine⟨_,fun H=>j6.m9 hG (F0 _ (by omega) (by omega)) (.cons (.t a8) .nil) a8,?_⟩
       refine .inl (.inl ?_)
       refine⟨⟨([],j2 [_,c8]),a8⟩,?_⟩
       refine A6.ofP (j6.move (.t rfl) ?_)
       refine⟨⟨([],j2 [_,c8]),a8⟩,?_⟩
       refine A6.append F5 (.inl ⟨_,Tryz.underlying86⟩) rfl .z (.v (.t rfl)) (by omega) (by omega) (fun w29 => ?_) rfl
       refine⟨⟨([],j2 [_,c8]),a8⟩,?_⟩
       refine A6.append F5 (.inl ⟨_,Tryz.underlying86⟩) rfl .z (.v (.t rfl)) (by omega) (by omega) (fun w33 => ?_) rfl
       refine⟨⟨([],j2 [_,c8]),a8⟩,?_⟩
       refine A6.ofP (j6.assign (.t rfl) ?_)
       refine⟨⟨([],j2 [_,c8]),a8⟩,?_⟩
       show F8 _ _ _ _ _ _ ((4,_)::(33,_)::(32,_)::(31,_)::(30,_)::(29,_)::(28,_)::(27,_)::(26,_)::(25,_)::_) _
       refine .nil (.seq (.y0 hC .z (.as 4 a8 .z (.region a8 (.mv a8 (.ag a8 (.p (.assign (.i a8) (.nil (.ret ?_))))))))))
       refine⟨_,.r2 a8 (.tmp a8) (.tmp a8),?_⟩
       first|(exfalso;omega)|(rw [A9 (by simpa using hc7)])|(rw [x8 hpo];unfold u4;(repeat (first|rw [if_pos (by omega)]|rw [if_neg (by omega)]));(try simp);done)
      ·refine .sr a8 (.p (.D4 (.t a8) (.i a8) (.ag a8 (.nil (.o8 (.t a8) (fun hc34 => ?_) (fun hc34 => ?_))))))
       ·refine .region a8 (.mv a8 (.p (.m0 j3.l4 (fun x=>x.Name) T1 a8 (fun _=>a8) (.t a8) (.p (.x3 ty9 (.t a8) (.h (.W9 Tryz.underlying9 Tryz.underlying86 Tryz.underlying5 (.t a8) fun w39=>(.y0 hC .z (.as 39 a8 .z (.p (.m9 hG (a06 _ (by omega)) (.cons (.t a8) .nil) (.h (.append F5 (.inl ⟨_,Tryz.underlying86⟩) a8 .z1 (.v (.t a8)) (by omega) (by omega) (fun w41 => .ag a8 ?_) a8)))))))))))))
        refine .nil (.seq (.y0 hC .z1 (.as 4 a8 .z1 (.region a8 (.mv a8 (.ag a8 (.p (.assign (.i a8) (.nil (.ret ?_))))))))))
        refine⟨_,.r2 a8 (.tmp a8) (.tmp a8),?_⟩
        first|(exfalso;omega)|(rw [A9 (by simpa using hc7)])|(rw [x8 hpo];unfold u4;(repeat (first|rw [if_pos (by omega)]|rw [if_neg (by omega)]));(try simp);done)
       ·refine .sr a8 (.p (.D4 (.t a8) (.i a8) (.ag a8 (.nil (.o8 (.t a8) (fun hc42 => ?_) (fun hc42 => ?_))))))
        ·refine .region a8 (.mv a8 (.p (.m0 j3.l5 (fun x=>x.Number) Q3 a8 (fun _=>a8) (.t a8) (.p (.x3 D0 (.t a8) (.p (.m9 hG (F0 _ (by omega) (by omega)) (.cons (.t a8) .nil) (.h (.append F5 (.inl ⟨_,Tryz.underlying86⟩) a8 .z (.v (.t a8)) (by omega) (by omega) (fun w48 => .ag a8 ?_) a8)))))))))
         refine .nil (.seq (.y0 hC .z (.as 4 a8 .z (.region a8 (.mv a8 (.ag a8 (.p (.assign (.i a8) (.nil (.ret ?_))))))))))
         refine⟨_,.r2 a8 (.tmp a8) (.tmp a8),?_⟩
         first|(exfalso;omega)|(rw [A9 (by simpa using hc7)])|(rw [x8 hpo];unfold u4;(repeat (first|rw [if_pos (by omega)]|rw [if_neg (by omega)]));(try simp);done)
        ·refine .skip (.seq (.y0 hC .z (.as 4 a8 .z (.region a8 (.mv a8 (.ag a8 (.p (.assign (.i a8) (.nil (.ret ?_))))))))))
         refine⟨_,.r2 a8 (.tmp a8) (.tmp a8),?_⟩
         first|(exfalso;omega)|(rw [A9 (by simpa using hc7)])|(rw [x8 hpo];unfold u4;(repeat (first|rw [if_pos (by omega)]|rw [if_neg (by omega)]));(try simp);done)
     ·refine .region a8 (.p (.D4 (.t a8) (.i a8) (.ag a8 (.nil (.o8 (.t a8) (fun hc22 => ?_) (fun hc22 => ?_))))))
      ·refine .E7 [j0,j1] (by kernel_rfl) 10 [[],[],[(26,1)],[(27,2)],[(25,0),(28,3)],[],[(30,5)],[(31,6)],[(29,4),(32,7)],[(33,8)]] [0,4,8,9] a8 (by kernel_rfl) a8 (by kernel_rfl) (by decide) (.inl ?_)
       refine⟨_,fun H=>j6.m0 j3.l2 (fun x=>x.J8) G0 a8 (fun _=>a8) (.t a8) a8,?_⟩
       refine⟨_,fun H=>j6.x3 D0 (.t a8) a8,?_⟩
       refine⟨_,fun H=>j6.m9 hG (F0 _ (by omega) (by omega)) (.cons (.t a8) .nil) a8,?_⟩
       refine .inl ?_
       refine⟨_,fun H=>j6.m0 j3.l3 (fun x=>x.To) G1 a8 (fun _=>a8) (.t a8) a8,?_⟩
       refine⟨_,fun H=>j6.x3 D0 (.t a8) a8,?_⟩
       refine⟨_,fun H=>j6.m9 hG (F0 _ (by omega) (by omega)) (.cons (.t a8) .nil) a8,?_⟩
       refine .inl (.inl ?_)
       refine⟨⟨([],j2 [_,c8]),a8⟩,?_⟩
       refine A6.ofP (j6.move (.t rfl) ?_)
       refine⟨⟨([],j2 [_,c8]),a8⟩,?_⟩
       refine A6.append F5 (.inl ⟨_,Tryz.underlying86⟩) rfl .z (.v (.t rfl)) (by omega) (by omega) (fun w29 => ?_) rfl
       refine⟨⟨([],j2 [_,c8]),a8⟩,?_⟩
       refine A6.append F5 (.inl ⟨_,Tryz.underlying86⟩) rfl .z (.v (.t rfl)) (by omega) (by omega) (fun w33 => ?_) rfl
       refine⟨⟨([],j2 [_,c8]),a8⟩,?_⟩
       refine A6.ofP (j6.assign (.t rfl) ?_)
       refine⟨⟨([],j2 [_,c8]),a8⟩,?_⟩
       show F8 _ _ _ _ _ _ ((4,_)::(33,_)::(32,_)::(31,_)::(30,_)::(29,_)::(28,_)::(27,_)::(26,_)::(25,_)::_) _
       refine .nil (.seq (.y0 hC .z (.as 4 a8 .z (.region a8 (.mv a8 (.ag a8 (.p (.assign (.i a8) (.nil (.ret ?_))))))))))
       refine⟨_,.r2 a8 (.tmp a8) (.tmp a8),?_⟩
       first|(exfalso;omega)|(rw [A9 (by simpa using hc7)])|(rw [x8 hpo];unfold u4;(repeat (first|rw [if_pos (by omega)]|rw [if_neg (by omega)]));(try simp);done)
      ·refine .sr a8 (.p (.D4 (.t a8) (.i a8) (.ag a8 (.nil (.o8 (.t a8) (fun hc34 => ?_) (fun hc34 => ?_))))))
       ·refine .region a8 (.mv a8 (.p (.m0 j3.l4 (fun x=>x.Name) T1 a8 (fun _=>a8) (.t a8) (.p (.x3 ty9 (.t a8) (.h (.W9 Tryz.underlying9 Tryz.underlying86 Tryz.underlying5 (.t a8) fun w39=>(.y0 hC .z (.as 39 a8 .z (.p (.m9 hG (a06 _ (by omega)) (.cons (.t a8) .nil) (.h (.append F5 (.inl ⟨_,Tryz.underlying86⟩) a8 .z1 (.v (.t a8)) (by omega) (by omega) (fun w41 => .ag a8 ?_) a8)))))))))))))
        refine .nil (.seq (.y0 hC .z1 (.as 4 a8 .z1 (.region a8 (.mv a8 (.ag a8 (.p (.assign (.i a8) (.nil (.ret ?_))))))))))
        refine⟨_,.r2 a8 (.tmp a8) (.tmp a8),?_⟩
        first|(exfalso;omega)|(rw [A9 (by simpa using hc7)])|(rw [x8 hpo];unfold u4;(repeat (first|rw [if_pos (by omega)]|rw [if_neg (by omega)]));(try simp);done)
       ·refine .sr a8 (.p (.D4 (.t a8) (.i a8) (.ag a8 (.nil (.o8 (.t a8) (fun hc42 => ?_) (fun hc42 => ?_))))))
        ·refine .region a8 (.mv a8 (.p (.m0 j3.l5 (fun x=>x.Number) Q3 a8 (fun _=>a8) (.t a8) (.p (.x3 D0 (.t a8) (.p (.m9 hG (F0 _ (by omega) (by omega)) (.cons (.t a8) .nil) (.h (.append F5 (.inl ⟨_,Tryz.underlying86⟩) a8 .z (.v (.t a8)) (by omega) (by omega) (fun w48 => .ag a8 ?_) a8)))))))))
         refine .nil (.seq (.y0 hC .z (.as 4 a8 .z (.region a8 (.mv a8 (.ag a8 (.p (.assign (.i a8) (.nil (.ret ?_))))))))))
         refine⟨_,.r2 a8 (.tmp a8) (.tmp a8),?_⟩
         first|(exfalso;omega)|(rw [A9 (by simpa using hc7)])|(rw [x8 hpo];unfold u4;(repeat (first|rw [if_pos (by omega)]|rw [if_neg (by omega)]));(try simp);done)
        ·refine .skip (.seq (.y0 hC .z (.as 4 a8 .z (.region a8 (.mv a8 (.ag a8 (.p (.assign (.i a8) (.nil (.ret ?_))))))))))
         refine⟨_,.r2 a8 (.tmp a8) (.tmp a8),?_⟩
         first|(exfalso;omega)|(rw [A9 (by simpa using hc7)])|(rw [x8 hpo];unfold u4;(repeat (first|rw [if_pos (by omega)]|rw [if_neg (by omega)]));(try simp);done)
   ·refine .region a8 (.p (.D4 (.t a8) (.i a8) (.ag a8 (.nil (.o8 (.t a8) (fun hc13 => ?_) (fun hc13 => ?_))))))
    ·refine .region a8 (.mv a8 (.p (.m0 j3.l1 (fun x=>x.Mask) O2 a8 (fun _=>a8) (.t a8) (.p (.x3 a1i (.t a8) (.p (.m9 hG ((a2G _).b0C) (.cons (.t a8) .nil) (.h (.append F5 (.inl ⟨_,Tryz.underlying86⟩) a8 .z (.v (.t a8)) (by omega) (by omega) (fun w21 => .ag a8 ?_) a8)))))))))
     refine .nil (.seq (.y0 hC .z (.as 4 a8 .z (.region a8 (.mv a8 (.ag a8 (.p (.assign (.i a8) (.nil (.ret ?_))))))))))
     refine⟨_,.r2 a8 (.tmp a8) (.tmp a8),?_⟩
     first|(exfalso;omega)|(rw [A9 (by simpa using hc7)])|(rw [x8 hpo];unfold u4;(repeat (first|rw [if_pos (by omega)]|rw [if_neg (by omega)]));(try simp);done)
    ·refine .seq (.sr a8 (.p (.D4 (.t a8) (.i a8) (.ag a8 (.nil (.o8 (.t a8) (fun hc22 => ?_) (fun hc22 => ?_)))))))
     ·refine .skip (.o8 (.t a8) (fun hc22 => ?_) (fun hc22 => ?_))
      ·refine .E7 [j0,j1] (by kernel_rfl) 10 [[],[],[(26,1)],[(27,2)],[(25,0),(28,3)],[],[(30,5)],[(31,6)],[(29,4),(32,7)],[(33,8)]] [0,4,8,9] a8 (by kernel_rfl) a8 (by kernel_rfl) (by decide) (.inl ?_)
       refine⟨_,fun H=>j6.m0 j3.l2 (fun x=>x.J8) G0 a8 (fun _=>a8) (.t a8) a8,?_⟩
       refine⟨_,fun H=>j6.x3 D0 (.t a8) a8,?_⟩
       refine⟨_,fun H=>j6.m9 hG (F0 _ (by omega) (by omega)) (.cons (.t a8) .nil) a8,?_⟩
       refine .inl ?_
       refine⟨_,fun H=>j6.m0 j3.l3 (fun x=>x.To) G1 a8 (fun _=>a8) (.t a8) a8,?_⟩
       refine⟨_,fun H=>j6.x3 D0 (.t a8) a8,?_⟩
       refine⟨_,fun H=>j6.m9 hG (F0 _ (by omega) (by omega)) (.cons (.t a8) .nil) a8,?_⟩
       refine .inl (.inl ?_)
       refine⟨⟨([],j2 [_,c8]),a8⟩,?_⟩
       refine A6.ofP (j6.move (.t rfl) ?_)
       refine⟨⟨([],j2 [_,c8]),a8⟩,?_⟩
       refine A6.append F5 (.inl ⟨_,Tryz.underlying86⟩) rfl .z (.v (.t rfl)) (by omega) (by omega) (fun w29 => ?_) rfl
       refine⟨⟨([],j2 [_,c8]),a8⟩,?_⟩
       refine A6.append F5 (.inl ⟨_,Tryz.underlying86⟩) rfl .z (.v (.t rfl)) (by simp;omega) (by simp;omega) (fun w33 => ?_) rfl
       refine⟨⟨([],j2 [_,c8]),a8⟩,?_⟩
       refine A6.ofP (j6.assign (.t rfl) ?_)
       refine⟨⟨([],j2 [_,c8]),a8⟩,?_⟩
       show F8 _ _ _ _ _ _ ((4,_)::(33,_)::(32,_)::(31,_)::(30,_)::(29,_)::(28,_)::(27,_)::(26,_)::(25,_)::_) _
       refine .nil (.seq (.y0 hC .z (.as 4 a8 .z (.region a8 (.mv a8 (.ag a8 (.p (.assign (.i a8) (.nil (.ret ?_))))))))))
       refine⟨_,.r2 a8 (.tmp a8) (.tmp a8),?_⟩
       first|(exfalso;omega)|(rw [A9 (by simpa using hc7)])|(rw [x8 hpo];unfold u4;(repeat (first|rw [if_pos (by omega)]|rw [if_neg (by omega)]));(try simp);done)
      ·refine .sr a8 (.p (.D4 (.t a8) (.i a8) (.ag a8 (.nil (.o8 (.t a8) (fun hc34 => ?_) (fun hc34 => ?_))))))
       ·refine .region a8 (.mv a8 (.p (.m0 j3.l4 (fun x=>x.Name) T1 a8 (fun _=>a8) (.t a8) (.p (.x3 ty9 (.t a8) (.h (.W9 Tryz.underlying9 Tryz.underlying86 Tryz.underlying5 (.t a8) fun w39=>(.y0 hC .z (.as 39 a8 .z (.p (.m9 hG (a06 _ (by omega)) (.cons (.t a8) .nil) (.h (.append F5 (.inl ⟨_,Tryz.underlying86⟩) a8 .z1 (.v (.t a8)) (by omega) (by omega) (fun w41 => .ag a8 ?_) a8)))))))))))))
        refine .nil (.seq (.y0 hC .z1 (.as 4 a8 .z1 (.region a8 (.mv a8 (.ag a8 (.p (.assign (.i a8) (.nil (.ret ?_))))))))))
        refine⟨_,.r2 a8 (.tmp a8) (.tmp a8),?_⟩
        first|(exfalso;omega)|(rw [A9 (by simpa using hc7)])|(rw [x8 hpo];unfold u4;(repeat (first|rw [if_pos (by omega)]|rw [if_neg (by omega)]));(try simp);done)
       ·refine .sr a8 (.p (.D4 (.t a8) (.i a8) (.ag a8 (.nil (.o8 (.t a8) (fun hc42 => ?_) (fun hc42 => ?_))))))
        ·refine .region a8 (.mv a8 (.p (.m0 j3.l5 (fun x=>x.Number) Q3 a8 (fun _=>a8) (.t a8) (.p (.x3 D0 (.t a8) (.p (.m9 hG (F0 _ (by omega) (by omega)) (.cons (.t a8) .nil) (.h (.append F5 (.inl ⟨_,Tryz.underlying86⟩) a8 .z (.v (.t a8)) (by omega) (by omega) (fun w48 => .ag a8 ?_) a8)))))))))
         refine .nil (.seq (.y0 hC .z (.as 4 a8 .z (.region a8 (.mv a8 (.ag a8 (.p (.assign (.i a8) (.nil (.ret ?_))))))))))
         refine⟨_,.r2 a8 (.tmp a8) (.tmp a8),?_⟩
         first|(exfalso;omega)|(rw [A9 (by simpa using hc7)])|(rw [x8 hpo];unfold u4;(repeat (first|rw [if_pos (by omega)]|rw [if_neg (by omega)]));(try simp);done)
        ·refine .skip (.seq (.y0 hC .z (.as 4 a8 .z (.region a8 (.mv a8 (.ag a8 (.p (.assign (.i a8) (.nil (.ret ?_))))))))))
         refine⟨_,.r2 a8 (.tmp a8) (.tmp a8),?_⟩
         first|(exfalso;omega)|(rw [A9 (by simpa using hc7)])|(rw [x8 hpo];unfold u4;(repeat (first|rw [if_pos (by omega)]|rw [if_neg (by omega)]));(try simp);done)
     ·refine .region a8 (.p (.D4 (.t a8) (.i a8) (.ag a8 (.nil (.o8 (.t a8) (fun hc22 => ?_) (fun hc22 => ?_))))))
      ·refine .E7 [j0,j1] (by kernel_rfl) 10 [[],[],[(26,1)],[(27,2)],[(25,0),(28,3)],[],[(30,5)],[(31,6)],[(29,4),(32,7)],[(33,8)]] [0,4,8,9] a8 (by kernel_rfl) a8 (by kernel_rfl) (by decide) (.inl ?_)
       refine⟨_,fun H=>j6.m0 j3.l2 (fun x=>x.J8) G0 a8 (fun _=>a8) (.t a8) a8,?_⟩
       refine⟨_,fun H=>j6.x3 D0 (.t a8) a8,?_⟩
       refine⟨_,fun H=>j6.m9 hG (F0 _ (by omega) (by omega)) (.cons (.t a8) .nil) a8,?_⟩
       refine .inl ?_
       refine⟨_,fun H=>j6.m0 j3.l3 (fun x=>x.To) G1 a8 (fun _=>a8) (.t a8) a8,?_⟩
       refine⟨_,fun H=>j6.x3 D0 (.t a8) a8,?_⟩
       refine⟨_,fun H=>j6.m9 hG (F0 _ (by omega) (by omega)) (.cons (.t a8) .nil) a8,?_⟩
       refine .inl (.inl ?_)
       refine⟨⟨([],j2 [_,c8]),a8⟩,?_⟩
       refine A6.ofP (j6.move (.t rfl) ?_)
       refine⟨⟨([],j2 [_,c8]),a8⟩,?_⟩
       refine A6.append F5 (.inl ⟨_,Tryz.underlying86⟩) rfl .z (.v (.t rfl)) (by omega) (by omega) (fun w29 => ?_) rfl
       refine⟨⟨([],j2 [_,c8]),a8⟩,?_⟩
       refine A6.append F5 (.inl ⟨_,Tryz.underlying86⟩) rfl .z (.v (.t rfl)) (by simp;omega) (by simp;omega) (fun w33 => ?_) rfl
       refine⟨⟨([],j2 [_,c8]),a8⟩,?_⟩
       refine A6.ofP (j6.assign (.t rfl) ?_)
       refine⟨⟨([],j2 [_,c8]),a8⟩,?_⟩
       show F8 _ _ _ _ _ _ ((4,_)::(33,_)::(32,_)::(31,_)::(30,_)::(29,_)::(28,_)::(27,_)::(26,_)::(25,_)::_) _
       refine .nil (.seq (.y0 hC .z (.as 4 a8 .z (.region a8 (.mv a8 (.ag a8 (.p (.assign (.i a8) (.nil (.ret ?_))))))))))
       refine⟨_,.r2 a8 (.tmp a8) (.tmp a8),?_⟩
       first|(exfalso;omega)|(rw [A9 (by simpa using hc7)])|(rw [x8 hpo];unfold u4;(repeat (first|rw [if_pos (by omega)]|rw [if_neg (by omega)]));(try simp);done)
      ·refine .sr a8 (.p (.D4 (.t a8) (.i a8) (.ag a8 (.nil (.o8 (.t a8) (fun hc34 => ?_) (fun hc34 => ?_))))))
       ·refine .region a8 (.mv a8 (.p (.m0 j3.l4 (fun x=>x.Name) T1 a8 (fun _=>a8) (.t a8) (.p (.x3 ty9 (.t a8) (.h (.W9 Tryz.underlying9 Tryz.underlying86 Tryz.underlying5 (.t a8) fun w39=>(.y0 hC .z (.as 39 a8 .z (.p (.m9 hG (a06 _ (by omega)) (.cons (.t a8) .nil) (.h (.append F5 (.inl ⟨_,Tryz.underlying86⟩) a8 .z1 (.v (.t a8)) (by simp;omega) (by simp;omega) (fun w41 => .ag a8 ?_) a8)))))))))))))
        refine .nil (.seq (.y0 hC .z1 (.as 4 a8 .z1 (.region a8 (.mv a8 (.ag a8 (.p (.assign (.i a8) (.nil (.ret ?_))))))))))
        refine⟨_,.r2 a8 (.tmp a8) (.tmp a8),?_⟩
        first|(exfalso;omega)|(rw [A9 (by simpa using hc7)])|(rw [x8 hpo];unfold u4;(repeat (first|rw [if_pos (by omega)]|rw [if_neg (by omega)]));(try simp);done)
       ·refine .sr a8 (.p (.D4 (.t a8) (.i a8) (.ag a8 (.nil (.o8 (.t a8) (fun hc42 => ?_) (fun hc42 => ?_))))))
        ·refine .region a8 (.mv a8 (.p (.m0 j3.l5 (fun x=>x.Number) Q3 a8 (fun _=>a8) (.t a8) (.p (.x3 D0 (.t a8) (.p (.m9 hG (F0 _ (by omega) (by omega)) (.cons (.t a8) .nil) (.h (.append F5 (.inl ⟨_,Tryz.underlying86⟩) a8 .z (.v (.t a8)) (by omega) (by omega) (fun w48 => .ag a8 ?_) a8)))))))))
         refine .nil (.seq (.y0 hC .z (.as 4 a8 .z (.region a8 (.mv a8 (.ag a8 (.p (.assign (.i a8) (.nil (.ret ?_))))))))))
         refine⟨_,.r2 a8 (.tmp a8) (.tmp a8),?_⟩
         first|(exfalso;omega)|(rw [A9 (by simpa using hc7)])|(rw [x8 hpo];unfold u4;(repeat (first|rw [if_pos (by omega)]|rw [if_neg (by omega)]));(try simp);done)
        ·refine .skip (.seq (.y0 hC .z (.as 4 a8 .z (.region a8 (.mv a8 (.ag a8 (.p (.assign (.i a8) (.nil (.ret ?_))))))))))
         refine⟨_,.r2 a8 (.tmp a8) (.tmp a8),?_⟩
         first|(exfalso;omega)|(rw [A9 (by simpa using hc7)])|(rw [x8 hpo];unfold u4;(repeat (first|rw [if_pos (by omega)]|rw [if_neg (by omega)]));(try simp);done)
def a3k (k:Tag) (b:List UInt8) (x:o9):Bool:=decide (x.Key=k)&&decide (x.X3=b)
def a3D (k:Tag) (b:List UInt8):List UInt8:=a2f (a3C k ((b.take (b.length - 32)).take 8)) ((b.take (b.length - 32)).drop 8) ((b.take (b.length - 32)).drop 8).length
def C4 (a:C7) (k:Tag) (b:List UInt8):List UInt8×Int :=
 if a.J0 then match a.x7.find? (a3k k b) with
  | some x=>(x.Plain,0)
  | none=>([],14)
 else if b.length < 40∨296 < b.length then ([],14) else
 if (a0e k.l (a3h.l++b.take (b.length - 32))).l=b.drop (b.length - 32) then (a3D k b,0) else ([],14)
theorem a3l {a:C7} {k:Tag} {b:List UInt8} {x:o9} (hf:a.J0=true) (h:a.x7.find? (a3k k b)=some x):C4 a k b=(x.Plain,0):=by unfold C4;rw [if_pos hf,h]
theorem a6p {a:C7} {k:Tag} {b:List UInt8} (hf:a.J0=true) (h:a.x7.find? (a3k k b)=none):C4 a k b=([],14):=by unfold C4;rw [if_pos hf,h]
theorem a6q {a:C7} {k:Tag} {b:List UInt8} (hf:a.J0=false) (h:b.length < 40∨296 < b.length):C4 a k b=([],14):=by unfold C4;rw [if_neg (by rw [hf];decide),if_pos h]
theorem a7q {a:C7} {k:Tag} {b:List UInt8} (hf:a.J0=false) (h:¬(b.length < 40∨296 < b.length)) (h2:¬(a0e k.l (a3h.l++b.take (b.length - 32))).l=b.drop (b.length - 32)):C4 a k b=([],14):=by
 unfold C4;rw [if_neg (by rw [hf];decide),if_neg h,if_neg h2]
theorem a5R {a:C7} {k:Tag} {b:List UInt8} (hf:a.J0=false) (h:¬(b.length < 40∨296 < b.length)) (h2:(a0e k.l (a3h.l++b.take (b.length - 32))).l=b.drop (b.length - 32)):C4 a k b=(a3D k b,0):=by
 unfold C4;rw [if_neg (by rw [hf];decide),if_neg h,if_pos h2]
theorem b5R (a:C7) (k:Tag) (b:List UInt8) (hpl:∀ x∈a.x7,x.Plain.length≤1000000):u1 gl Tryz.prog 98 [.v a,.v k,.v b] (fun r=>r = .t2 (.v (C4 a k b).1) (.v (C4 a k b).2)):=by
 refine u1.intro Tryz.func98 rfl (by kernel_rfl) 64 rfl rfl _ rfl fun C hC hG=>(.sr rfl (.h (.box (.t rfl) fun b3 => .h (.box (.t rfl) fun b4 => .p (.assign (.K4 (α:=UInt8)) (.p (.assign (.i rfl) (.nil (.seq (.seq (.B0 hC .z (.Q5 4 rfl .z (.B0 hC .z1 (.Q5 3 rfl .z1 (.region rfl (.p (.m0 j7.l0 (fun x=>x.J0) a4r rfl (fun _=>rfl) (.t rfl) (.p (.x3 ty4 (.t rfl) (.nil (.cond (.t rfl) (fun hc13 => ?_) (fun hc13 => ?_))))))))))))))))))))))
 ·refine .seq (.sr a8 (.p (.m0 j7.l4 (fun x=>x.x7) a1s a8 (fun _=>a8) (.t a8) (.p (.x3 a6S (.t a8) (.p (.len Tryz.underlying36 (.t a8) (.p (.move (.i a8) (.nil (.block (.F4 (α:=Nat) [(2,_),(4,_),(15,_),(16,_)] (fun i R=>(17,.v (i:Int))::R) (Function.const _ _) (fun i=>i≤a.x7.length∧∀ j (hj:j < a.x7.length),j < i→a3k k b a.x7[j]=false) (fun i=>a.x7.length - i) (0) (.c2 a8 a8 (.c2 a8 a8 (.nil _))) ?_ (.c2 a8 a8 (.c2 a8 a8 (.cons a8 (.nil _)))) (a8) fun i hF => ?_))))))))))))
  ·simp
  obtain⟨h1,h2⟩:=hF
  refine .sr a8 (.p (.lss (.t a8) (.t a8) (.nil (.seq (.o8 (.t a8) (fun hc18 => ?_) (fun hc18 => ?_))))))
  ·refine .skip (.seq (.block (.sr a8 (.p (.idx a1n Tryz.underlying36 (.t a8) (.t a8) (by omega) (by omega) (.p (.x3 a1n (.t a8) (.h (.alloc a1n fun b9 => .n (.C8 a1n (.t a8) (.t a8) .z (.nil (.sr a8 (.p (.x4 o9.l0 a99 a8 (.t a8) (.p (.K0 (fun x=>x.Key) p3 (.t a8) .z (fun _=>a8) (.p (.x3 p3 (.t a8) (.p (.a6e Tryz.underlying26 sz5 Tryz.underlying5 a92 (.t a8) (.t a8) (.mv a8 (.go 25 a8 (.t a8) (fun hg26 => .x4 o9.l3 b0b a8 (.t a8) a8) (.go 25 a8 (.t a8) (fun hg27 => .K0 (fun x=>x.X3) P1 (.q a8 hg27) .z (fun _=>a8) a8) (.go 25 a8 (.t a8) (fun hg28 => .move (.t a8) a8) (.go 25 a8 (.t a8) (fun hg29 => .m9 hG (a05 _ _) (.cons (.q a8 hg29) (.cons (.q a8 hg29) .nil)) a8) (.p (.u0 (.t a8) (fun hp=>(.q a8 hp)) ?_)))))))))))))))))))))))))))
   refine .nil (.cond (.t a8) (fun hc30 => ?_) (fun hc30 => ?_))
   ·refine .seq ?_
    have hb6:=hpl _ (List.getElem_mem (l:=a.x7) (n:=(i:Int).toNat) (by omega))
    refine .region a8 (.p (.x4 o9.l2 b0a a8 (.t a8) (.p (.K0 (fun x=>x.Plain) P1 (.t a8) .z (fun _=>a8) (.p (.m9 hG (b0t _ (by omega)) (.cons (.t a8) .nil) (.ag a8 (.p (.assign (.i a8) (.nil (.ret ?_)))))))))))
    refine⟨_,.r2 a8 (.tmp a8) (.tmp a8),?_⟩
    rw [a3l hc13 (a5M (k:=i) (by omega) hc30 h2)];rfl
   ·refine .skip (.drop (.Y4 15 a8 fun hl15=>(.region a8 (.p (.add (.t a8) (.i a8) (by omega) (by omega) (.mv a8 (.nil ?_)))))))
    refine⟨i+1,.c2 rfl rfl (.c2 rfl rfl (.cons rfl (.nil _))),rfl,?_,by omega⟩
    refine⟨by omega,fun j hj hji => ?_⟩;rcases Nat.lt_or_ge j i with h|h;exact h2 j hj h;(obtain rfl:j=i:=by omega);exact hc30
  ·refine .exit (.sr a8 (.p (.assign (.K4 (α:=UInt8)) (.p (.assign (.i a8) (.nil (.ret ?_)))))))
   refine⟨_,.r2 a8 (.tmp a8) (.tmp a8),?_⟩
   rw [a6p hc13 (a2H fun j hj=>h2 j hj (by omega))]
 ·refine .skip (.seq (.sr a8 (.mv a8 (.p (.len Tryz.underlying86 (.t a8) (.p (.lss (.t a8) (.i a8) (.mv a8 (.go 38 a8 (.t a8) (fun hg39 => .move (.t a8) a8) (.go 38 a8 (.t a8) (fun hg40 => .len Tryz.underlying86 (.q a8 hg40) a8) (.go 38 a8 (.t a8) (fun hg41 => .gtr (.q a8 hg41) (.i a8) a8) (.p (.E0 (.t a8) (fun hp=>(.q a8 hp)) (.nil (.cond (.t a8) (fun hc42 => ?_) (fun hc42 => ?_))))))))))))))))
  ·refine .sr a8 (.p (.assign (.K4 (α:=UInt8)) (.p (.assign (.i a8) (.nil (.ret ?_))))))
   refine⟨_,.r2 a8 (.tmp a8) (.tmp a8),?_⟩
   rw [a6q hc13 (by simp at hc42;omega)]
  ·refine .skip (.sr a8 (.mv a8 (.mv a8 (.p (.len Tryz.underlying86 (.t a8) (.p (.sub (.t a8) (.i a8) (by omega) (by simp at *;omega) (.p (.b9h U1 Tryz.underlying86 (.t a8) (.t a8) (by simp at *;omega) (by omega) (.ag a8 (.nil (.sr a8 (.p (.x3 p3 (.t a8) (.mv a8 (.p (.m9 hG (b3r _ _ (by simp at *;omega)) (.cons (.t a8) (.cons (.t a8) .nil)) (.h (.alloc p3 fun b11 => .n (.C8 p3 (.t a8) (.t a8) .z (.nil (.seq (.seq (.B0 hC .z (.Q5 11 a8 .z (.draw (by kernel_rfl) 7 [[],[],[],[(53,2)],[(52,1),(54,3)],[(51,0),(55,4)],[(56,5)]] a8 (by kernel_rfl) a8 ?_))))))))))))))))))))))))))
   refine⟨_,j6.P5 (by decide) O7 (.t a8) a8,?_⟩
   refine⟨_,j6.move (.t a8) a8,?_⟩
   refine⟨_,j6.move (.t a8) a8,?_⟩
   refine⟨_,j6.len Tryz.underlying86 (.t a8) a8,?_⟩
   refine⟨_,j6.b7b U1 Tryz.underlying86 (.t a8) (.t a8) (by omega) (by simp;omega) a8,?_⟩
   refine⟨_,j6.m9 hG (b9o _ _) (.cons (.t a8) (.cons (.t a8) .nil)) a8,?_⟩
   refine⟨_,j6.not (.t a8) a8,?_⟩
   show F8 _ _ _ _ _ _ ((57,_)::(56,_)::(55,_)::(54,_)::(53,_)::(52,_)::(51,_)::_) _
   refine .nil (.cond (.t a8) (fun hc57 => ?_) (fun hc57 => ?_))
   ·refine .sr a8 (.p (.assign (.K4 (α:=UInt8)) (.p (.assign (.i a8) (.nil (.ret ?_))))))
    refine⟨_,.r2 a8 (.tmp a8) (.tmp a8),?_⟩
    have e1:((b.length:Int) - 32).toNat=b.length - 32:=by omega
    have e2:(List.take (b.length - 32) b).length=b.length - 32:=by simp
    rw [e1,Int.toNat_natCast,e2] at hc57
    rw [a7q hc13 (by simp at hc42;omega) (by simpa using hc57)]
   ·refine .skip (.seq (.draw (by kernel_rfl) 8 [[],[],[(59,1)],[],[(61,3)],[(58,0),(60,2),(62,4)],[(63,5)],[]] a8 (by kernel_rfl) a8 ?_))
    refine⟨_,j6.x3 p3 (.t a8) a8,?_⟩
    refine⟨_,j6.move (.t a8) a8,?_⟩
    refine⟨_,j6.b9h U1 Tryz.underlying86 (.t a8) (.i a8) (by omega) (by simp at *;omega) a8,?_⟩
    refine⟨_,j6.move (.t a8) a8,?_⟩
    refine⟨_,j6.b7b U1 Tryz.underlying86 (.t a8) (.i a8) (by omega) (by simp at *;omega) a8,?_⟩
    refine⟨_,j6.m9 hG ((b9x _ _ _ (by simp;omega) (by simp at *;omega)).b0C) (.cons (.t a8) (.cons (.t a8) (.cons (.t a8) .nil))) a8,?_⟩
    refine⟨_,j6.assign (.t a8) a8,?_⟩
    refine⟨_,j6.assign (.i a8) a8,?_⟩
    show F8 _ _ _ _ _ _ ((7,_)::(6,_)::(63,_)::(62,_)::(61,_)::(60,_)::(59,_)::(58,_)::_) _
    refine .nil (.ret ?_)
    refine⟨_,.r2 a8 (.tmp a8) (.tmp a8),?_⟩
    have e1:((b.length:Int) - 32).toNat=b.length - 32:=by omega
    have e2:(List.take (b.length - 32) b).length=b.length - 32:=by simp
    rw [e1,Int.toNat_natCast,e2] at hc57
    rw [a5R hc13 (by simp at hc42;omega) (by simpa using hc57),e1];rfl
def a6r (b:List UInt8):Nat→UInt64
 | 0=>0
 | i+1=>256*a6r b i+(b.getD i 0).toUInt64
theorem b3z (b:List UInt8) (j:Nat) (h:(j:Int).toNat < b.length):256*a6r b j+(b[(j:Int).toNat]'h).toUInt64=a6r b (j+1):=by
 have e:b.getD j 0=b[(j:Int).toNat]'h:=by
  rw [List.getD_eq_getElem?_getD,List.getElem?_eq_getElem (by omega)];rfl
 rw [a6r,e]
theorem c2y (n:UInt64) (k:Nat) (hk:k < 64):(n >>> UInt64.ofNat k).toUInt8.toNat=n.toNat/2^k % 256:=by
 rw [UInt64.toNat_toUInt8,UInt64.toNat_shiftRight,UInt64.toNat_ofNat_of_lt' (by have:UInt64.size=18446744073709551616:=rfl;omega),Nat.mod_eq_of_lt hk,Nat.shiftRight_eq_div_pow]
theorem b3A (b:List UInt8) (h:8≤b.length):R7 (a6r b 8) 8=b.take 8:=by
 obtain⟨c0,c1,c2,c3,c4,c5,c6,c7,r,rfl⟩:∃ c0 c1 c2 c3 c4 c5 c6 c7 r,b=c0::c1::c2::c3::c4::c5::c6::c7::r:=by
  match b,h with
  | c0::c1::c2::c3::c4::c5::c6::c7::r,_=>exact⟨_,_,_,_,_,_,_,_,_,rfl⟩
 have l0:=c0.toNat_lt;have l1:=c1.toNat_lt;have l2:=c2.toNat_lt;have l3:=c3.toNat_lt
 have l4:=c4.toNat_lt;have l5:=c5.toNat_lt;have l6:=c6.toNat_lt;have l7:=c7.toNat_lt
 have hN:(a6r (c0::c1::c2::c3::c4::c5::c6::c7::r) 8).toNat=256*(256*(256*(256*(256*(256*(256*c0.toNat+c1.toNat)+c2.toNat)+c3.toNat)+c4.toNat)+c5.toNat)+c6.toNat)+c7.toNat:=by
  simp only [a6r,UInt64.toNat_add,UInt64.toNat_mul,List.getD_cons_zero,List.getD_cons_succ,UInt8.toNat_toUInt64,UInt64.toNat_ofNat]
  omega
 generalize a6r (c0::c1::c2::c3::c4::c5::c6::c7::r) 8=n at hN
 have key:∀ (k:Nat) (c:UInt8),k < 64→n.toNat/2^k % 256=c.toNat→(n >>> UInt64.ofNat k).toUInt8=c:=fun k c hk h=>UInt8.toNat_inj.1 ((c2y n k hk).trans h)
 have e:R7 n 8 = [(n >>> UInt64.ofNat (56 - 8*0)).toUInt8,(n >>> UInt64.ofNat (56 - 8*1)).toUInt8,(n >>> UInt64.ofNat (56 - 8*2)).toUInt8,(n >>> UInt64.ofNat (56 - 8*3)).toUInt8,(n >>> UInt64.ofNat (56 - 8*4)).toUInt8,(n >>> UInt64.ofNat (56 - 8*5)).toUInt8,(n >>> UInt64.ofNat (56 - 8*6)).toUInt8,(n >>> UInt64.ofNat (56 - 8*7)).toUInt8]:=rfl
 rw [e]
 simp only [List.take_succ_cons,List.take_zero]
 rw [key (56 - 8*0) c0 (by omega) (by simp;omega),key (56 - 8*1) c1 (by omega) (by simp;omega),key (56 - 8*2) c2 (by omega) (by simp;omega),key (56 - 8*3) c3 (by omega) (by simp;omega),
  key (56 - 8*4) c4 (by omega) (by simp;omega),key (56 - 8*5) c5 (by omega) (by simp;omega),key (56 - 8*6) c6 (by omega) (by simp;omega),key (56 - 8*7) c7 (by omega) (by simp;omega)]
theorem b9y (a:C7) (k:Tag) (b:List UInt8) (hpl:∀ x∈a.x7,x.Plain.length≤1000000):u1 gl Tryz.prog 112 [.v a,.v k,.v b] (fun r=>r = .t2 (.v (C4 a k b).1) (.v (C4 a k b).2)):=by
 refine u1.intro Tryz.func112 rfl (by kernel_rfl) 89 rfl rfl _ rfl fun C hC hG=>(.sr rfl (.h (.box (.t rfl) fun b3 => .h (.box (.t rfl) fun b4 => .p (.assign (.K4 (α:=UInt8)) (.p (.assign (.i rfl) (.nil (.seq (.seq (.B0 hC .z (.Q5 4 rfl .z (.B0 hC .z1 (.Q5 3 rfl .z1 (.region rfl (.p (.m0 j7.l0 (fun x=>x.J0) a4r rfl (fun _=>rfl) (.t rfl) (.p (.x3 ty4 (.t rfl) (.nil (.cond (.t rfl) (fun hc14 => ?_) (fun hc14 => ?_))))))))))))))))))))))
 ·refine .seq (.sr a8 (.p (.assign (.i a8) (.nil (.block (.F4 (α:=Nat) [(2,_),(3,_),(4,_)] (fun i R=>(8,.v (i:Int))::R) (Function.const _ _) (fun i=>i≤a.x7.length∧∀ j (hj:j < a.x7.length),j < i→a3k k b a.x7[j]=false) (fun i=>a.x7.length - i) (0) (.c2 a8 a8 (.cons a8 (.nil _))) ?_ (.c2 a8 a8 (.c2 a8 a8 (.nil _))) (a8) fun i hF => ?_))))))
  ·simp
  obtain⟨h1,h2⟩:=hF
  refine .seq (.sr a8 (.mv a8 (.p (.m0 j7.l4 (fun x=>x.x7) a1s a8 (fun _=>a8) (.t a8) (.p (.x3 a6S (.t a8) (.p (.len Tryz.underlying36 (.t a8) (.p (.lss (.t a8) (.t a8) (.nil (.o8 (.t a8) (fun hc19 => ?_) (fun hc19 => ?_)))))))))))))
  ·refine .skip (.seq (.block (.seq (.draw (by kernel_rfl) 18 [[],[(22,0)],[],[(23,1),(24,2)],[(25,3)],[(26,4)],[],[(27,5),(28,6)],[(29,7)],[],[(31,9)],[],[(32,10),(33,11)],[(34,12)],[(35,13)],[],[(36,14),(37,15)],[(30,8),(38,16)]] a8 (by kernel_rfl) a8 ?_))))
   refine⟨_,j6.m0 j7.l4 (fun x=>x.x7) a1s a8 (fun _=>a8) (.t a8) a8,?_⟩
   refine⟨_,j6.x3 a6S (.t a8) a8,?_⟩
   refine⟨_,j6.move (.t a8) a8,?_⟩
   refine⟨_,j6.idx a1n Tryz.underlying36 (.t a8) (.t a8) (by omega) (by omega) a8,?_⟩
   refine⟨_,j6.m0 o9.l0 (fun x=>x.Key) a99 a8 (fun _=>a8) (.t a8) a8,?_⟩
   refine⟨_,j6.x3 p3 (.t a8) a8,?_⟩
   refine⟨_,j6.x3 p3 (.t a8) a8,?_⟩
   refine⟨_,j6.a6e Tryz.underlying26 sz5 Tryz.underlying5 a92 (.t a8) (.t a8) a8,?_⟩
   refine⟨_,j6.move (.t a8) a8,?_⟩
   refine⟨_,⟨_,_,a8,a8,fun hg31=>j6.m0 j7.l4 (fun x=>x.x7) a1s a8 (fun _=>a8) (.t a8) a8⟩,?_⟩
   refine⟨_,⟨_,_,a8,a8,fun hg32=>j6.x3 a6S (.q a8 hg32) a8⟩,?_⟩
   refine⟨_,⟨_,_,a8,a8,fun hg33=>j6.move (.t a8) a8⟩,?_⟩
   refine⟨_,⟨_,_,a8,a8,fun hg34=>j6.idx a1n Tryz.underlying36 (.q a8 hg34) (.q a8 hg34) (by first|omega|(simp;omega)|(have:=hg34;simp at this;omega)) (by first|omega|(simp;omega)|(have:=hg34;simp at this;omega)) a8⟩,?_⟩
   refine⟨_,⟨_,_,a8,a8,fun hg35=>j6.m0 o9.l3 (fun x=>x.X3) b0b a8 (fun _=>a8) (.q a8 hg35) a8⟩,?_⟩
   refine⟨_,⟨_,_,a8,a8,fun hg36=>j6.x3 P1 (.q a8 hg36) a8⟩,?_⟩
   refine⟨_,⟨_,_,a8,a8,fun hg37=>j6.move (.t a8) a8⟩,?_⟩
   refine⟨_,⟨_,_,a8,a8,fun hg38=>j6.m9 hG (a6V _ _) (.cons (.q a8 hg38) (.cons (.q a8 hg38) .nil)) a8⟩,?_⟩
   refine⟨_,j6.u0 (.t a8) (fun hp=>(.q a8 hp)) a8,?_⟩
   show F8 _ _ _ _ _ _ ((39,_)::(38,_)::(37,_)::(36,_)::(35,_)::(34,_)::(33,_)::(32,_)::(31,_)::(30,_)::(29,_)::(28,_)::(27,_)::(26,_)::(25,_)::(24,_)::(23,_)::(22,_)::_) _
   refine .nil (.cond (.t a8) (fun hc39 => ?_) (fun hc39 => ?_))
   ·refine .seq ?_
    have hb6:=hpl _ (List.getElem_mem (l:=a.x7) (n:=(i:Int).toNat) (by omega))
    refine .region a8 (.h (.buildSlice (α:=UInt8) U1 Tryz.underlying86 .nil a8 (by decide) fun b40 => .p (.m0 j7.l4 (fun x=>x.x7) a1s a8 (fun _=>a8) (.t a8) (.p (.x3 a6S (.t a8) (.mv a8 (.p (.idx a1n Tryz.underlying36 (.t a8) (.t a8) (by omega) (by omega) (.p (.m0 o9.l2 (fun x=>x.Plain) b0a a8 (fun _=>a8) (.t a8) (.p (.x3 P1 (.t a8) (.h (.append F5 (.inl ⟨_,Tryz.underlying86⟩) a8 .z (.v (.t a8)) (by simp at *;omega) (by simp at *;omega) (fun w47 => .ag a8 (.p (.assign (.i a8) ?_))) a8))))))))))))))
    refine .nil (.y0 hC .z (.as 6 a8 .z (.ret ?_)))
    refine⟨_,.r2 a8 (.tmp a8) (.tmp a8),?_⟩
    rw [a3l hc14 (a5M (k:=i) (by omega) hc39 h2)];rfl
   ·refine .skip (.Y4 17 a8 fun hl17=>(.region a8 (.mv a8 (.p (.add (.t a8) (.i a8) (by omega) (by omega) (.ag a8 (.nil ?_)))))))
    refine⟨i+1,.c2 rfl rfl (.c2 rfl rfl (.nil _)),rfl,?_,by omega⟩
    refine⟨by omega,fun j hj hji => ?_⟩;rcases Nat.lt_or_ge j i with h|h;exact h2 j hj h;(obtain rfl:j=i:=by omega);exact hc39
  ·refine .exit (.sr a8 (.p (.assign (.K4 (α:=UInt8)) (.p (.assign (.i a8) (.nil (.ret ?_)))))))
   refine⟨_,.r2 a8 (.tmp a8) (.tmp a8),?_⟩
   rw [a6p hc14 (a2H fun j hj=>h2 j hj (by omega))]
 ·refine .skip (.sr a8 (.mv a8 (.p (.len Tryz.underlying86 (.t a8) (.ag a8 (.nil (.seq (.sr a8 (.mv a8 (.p (.lss (.t a8) (.i a8) (.mv a8 (.go 52 a8 (.t a8) (fun hg53 => .move (.t a8) a8) (.go 52 a8 (.t a8) (fun hg54 => .gtr (.q a8 hg54) (.i a8) a8) (.p (.E0 (.t a8) (fun hp=>(.q a8 hp)) (.nil (.cond (.t a8) (fun hc55 => ?_) (fun hc55 => ?_)))))))))))))))))))
  ·refine .sr a8 (.p (.assign (.K4 (α:=UInt8)) (.p (.assign (.i a8) (.nil (.ret ?_))))))
   refine⟨_,.r2 a8 (.tmp a8) (.tmp a8),?_⟩
   rw [a6q hc14 (by simp at hc55;omega)]
  ·refine .skip (.seq (.a7l (by kernel_rfl) 8 [[],[],[],[(58,2)],[(57,1),(59,3)],[(60,4)],[(56,0),(61,5)],[]] [7] a8 (by kernel_rfl) a8 (by kernel_rfl) (by decide) ?_))
   refine⟨_,fun H=>j6.P5 (by decide) O7 (.t a8) a8,?_⟩
   refine⟨_,fun H=>j6.move (.t a8) a8,?_⟩
   refine⟨_,fun H=>j6.move (.t a8) a8,?_⟩
   refine⟨_,fun H=>j6.sub (.t a8) (.i a8) (by omega) (by simp at *;omega) a8,?_⟩
   refine⟨_,fun H=>j6.b9h U1 Tryz.underlying86 (.t a8) (.t a8) (by simp at *;omega) (by omega) a8,?_⟩
   refine⟨_,fun H=>j6.m9 hG (a4G _ _ (by simp) (by simp at *;omega)) (.cons (.s [98,111,120] (by decide) (by decide)) (.cons (.t a8) .nil)) a8,?_⟩
   refine⟨_,fun H=>j6.m9 hG (a45 _ _ (by simp) (by simp at *;omega)) (.cons (.t a8) (.cons (.t a8) .nil)) a8,?_⟩
   refine .inl ?_
   refine A6.alloc p3 fun b10 => ?_
   show F8 _ _ _ _ _ _ ((10,_)::(62,_)::(61,_)::(60,_)::(59,_)::(58,_)::(57,_)::(56,_)::_) _
   refine .n (.C8 p3 (.t a8) (.t a8) .z (.nil (.seq (.seq (.B0 hC .z (.Q5 10 a8 .z (.draw (by kernel_rfl) 7 [[],[],[],[(65,2)],[(64,1),(66,3)],[(63,0),(67,4)],[(68,5)]] a8 (by kernel_rfl) a8 ?_)))))))
   refine⟨_,j6.P5 (by decide) O7 (.t a8) a8,?_⟩
   refine⟨_,j6.move (.t a8) a8,?_⟩
   refine⟨_,j6.move (.t a8) a8,?_⟩
   refine⟨_,j6.sub (.t a8) (.i a8) (by omega) (by simp at *;omega) a8,?_⟩
   refine⟨_,j6.b7b U1 Tryz.underlying86 (.t a8) (.t a8) (by simp at *;omega) (by omega) a8,?_⟩
   refine⟨_,j6.m9 hG (a6V _ _) (.cons (.t a8) (.cons (.t a8) .nil)) a8,?_⟩
   refine⟨_,j6.not (.t a8) a8,?_⟩
   show F8 _ _ _ _ _ _ ((69,_)::(68,_)::(67,_)::(66,_)::(65,_)::(64,_)::(63,_)::_) _
   refine .nil (.cond (.t a8) (fun hc69 => ?_) (fun hc69 => ?_))
   ·refine .sr a8 (.p (.assign (.K4 (α:=UInt8)) (.p (.assign (.i a8) (.nil (.ret ?_))))))
    refine⟨_,.r2 a8 (.tmp a8) (.tmp a8),?_⟩
    have e1:((b.length:Int) - 32).toNat=b.length - 32:=by omega
    rw [e1] at hc69
    have h9:(!decide ((a0e k.l (a3h.l++b.take (b.length - 32))).l=b.drop (b.length - 32)))=true:=hc69
    rw [a7q hc14 (by simp at hc55;omega) (by simpa using h9)]
   ·refine .skip (.sr a8 (.p (.assign (.u64 0 a8) (.nil (.seq (.sr a8 (.p (.assign (.i a8) (.nil (.block (.F4 (α:=Nat) [(2,_),(4,_),(9,_)] (fun j R=>(11,.v (a6r b j))::(12,.v (j:Int))::R) (Function.const _ _) (fun j=>j≤8) (fun j=>8 - j) (0) (.c2 a8 a8 (.cons a8 (.nil _))) ?_ (.c2 a8 a8 (.c2 a8 a8 (.cons a8 (.nil _)))) (a8) fun j hF => ?_)))))))))))
    ·simp
    refine .seq (.sr a8 (.mv a8 (.p (.lss (.t a8) (.i a8) (.nil (.o8 (.t a8) (fun hc71 => ?_) (fun hc71 => ?_)))))))
    ·refine .skip (.seq (.block (.region a8 (.mv a8 (.p (.b1d (.u64 256 a8) (.t a8) (.mv a8 (.mv a8 (.p (.idx U1 Tryz.underlying86 (.t a8) (.t a8) (by omega) (by simp at *;omega) (.p (.x3 U1 (.t a8) (.p (.a78 Tryz.underlying5 Tryz.underlying77 (.t a8) (.p (.b6F (.t a8) (.t a8) (.ag a8 (.nil (.region a8 (.mv a8 (.p (.add (.t a8) (.i a8) (by omega) (by omega) (.ag a8 (.nil ?_))))))))))))))))))))))))
     refine⟨j+1,.cons (congrArg (fun q=>some (AV.v q)) (b3z b j _)) (.c2 rfl rfl (.c2 rfl rfl (.nil _))),rfl,?_,by omega⟩
     omega
    ·refine .exit (.seq (.draw (by kernel_rfl) 9 [[],[],[],[],[(85,3)],[(84,2),(86,4)],[(82,0),(83,1),(87,5)],[(88,6)],[]] a8 (by kernel_rfl) a8 ?_))
     refine⟨_,j6.x3 p3 (.t a8) a8,?_⟩
     refine⟨_,j6.move (.t a8) a8,?_⟩
     refine⟨_,j6.move (.t a8) a8,?_⟩
     refine⟨_,j6.move (.t a8) a8,?_⟩
     refine⟨_,j6.sub (.t a8) (.i a8) (by omega) (by simp at *;omega) a8,?_⟩
     refine⟨_,j6.c12 U1 Tryz.underlying86 (.t a8) (.i a8) (.t a8) (by omega) (by simp at *;omega) (by omega) a8,?_⟩
     refine⟨_,j6.m9 hG (a9C _ _ _ (by simp at *;omega)) (.cons (.t a8) (.cons (.t a8) (.cons (.t a8) .nil))) a8,?_⟩
     refine⟨_,j6.assign (.t a8) a8,?_⟩
     refine⟨_,j6.assign (.i a8) a8,?_⟩
     show F8 _ _ _ _ _ _ ((7,_)::(6,_)::(88,_)::(87,_)::(86,_)::(85,_)::(84,_)::(83,_)::(82,_)::_) _
     refine .nil (.ret ?_)
     refine⟨_,.r2 a8 (.tmp a8) (.tmp a8),?_⟩
     obtain rfl:j=8:=by omega
     have e1:((b.length:Int) - 32).toNat=b.length - 32:=by omega
     rw [e1] at hc69
     have h9:(!decide ((a0e k.l (a3h.l++b.take (b.length - 32))).l=b.drop (b.length - 32)))=false:=hc69
     rw [a5R hc14 (by simp at hc55;omega) (by simpa using h9),e1,←a7p,b3A b (by simp at hc55;omega)]
     unfold a3D
     rw [List.take_take,Nat.min_eq_left (by simp at hc55;omega)];rfl
abbrev Cav:=m7
abbrev Y0:=m6
abbrev Bnd:=p5
abbrev Rq:=p7
def S5 {α:Type} (f:α→List UInt8) (l:List α):List UInt8:=(l.map f).flatten
theorem a1B {α:Type} (f:α→List UInt8) (l:List α) (k:Nat) (h:k < l.length):S5 f (l.take (k+1))=S5 f (l.take k)++f l[k]:=by
 unfold S5;rw [List.take_succ_eq_append_getElem h,List.map_append,List.flatten_append];simp
theorem a13 {α:Type} (f:α→List UInt8) (l:List α) (m:Nat) (h:∀ x∈l,(f x).length≤m):(S5 f l).length≤m*l.length:=by
 induction l with
 | nil=>simp [S5]
 | cons n l ih =>
  have h1:=h n (by simp)
  have h2:=ih fun x hx=>h x (by simp [hx])
  unfold S5 at h2 ⊢
  rw [List.map_cons,List.flatten_cons,List.length_append,List.length_cons,Nat.mul_add];omega
theorem a2n {α:Type} (f:α→List UInt8) (l:List α) (m k:Nat) (h:∀ x∈l,(f x).length≤m):(S5 f (l.take k)).length≤m*l.length:=by
 have h1:=a13 f (l.take k) m fun x hx=>h x (List.mem_of_mem_take hx)
 have h2:(l.take k).length≤l.length:=by simp;omega
 exact Nat.le_trans h1 (Nat.mul_le_mul_left m h2)
def H7 (c:Cav):Bool :=
 if c.M1 then decide (c.a1m=default)&&decide (0≤c.E8)&&decide (c.E8≤7)&&(decide (1≤c.j8.length)&&decide (c.j8.length≤1024))&&(decide (1≤c.X3.length)&&decide (c.X3.length≤1024))
 else A5 c.a1m&&decide (c.E8=0)&&decide (c.j8.length=0)&&decide (c.X3.length=0)
def a0n (x:List UInt8):List UInt8:=K5 x.length++x
def D7 (c:Cav):List UInt8:=if c.M1 then 2::(K5 c.E8.toNat++a0n c.j8++a0n c.X3) else 1::u4 c.a1m
def W3 (c:Cav):List UInt8×Int:=if H7 c then (D7 c,0) else ([],5)
theorem a1C {x:List UInt8} (h:x.length≤1024):(a0n x).length≤1031:=by
 have:=A8 (n:=x.length) (by omega)
 unfold a0n;rw [List.length_append];omega
theorem a0N {c:Cav} (h:H7 c=true) (h3:c.M1=true):c.a1m=default∧0≤c.E8∧c.E8≤7∧1≤c.j8.length∧c.j8.length≤1024∧1≤c.X3.length∧c.X3.length≤1024:=by
 unfold H7 at h;rw [if_pos h3] at h
 simp only [Bool.and_eq_true,decide_eq_true_eq] at h
 obtain⟨⟨⟨⟨a,b⟩,c⟩,d,e⟩,f,g⟩:=h
 exact⟨a,b,c,d,e,f,g⟩
theorem a0O {c:Cav} (h:H7 c=true) (h3:c.M1=false):A5 c.a1m=true∧c.E8=0∧c.j8 = []∧c.X3 = []:=by
 unfold H7 at h;rw [if_neg (by rw [h3];decide)] at h
 simp only [Bool.and_eq_true,decide_eq_true_eq,List.length_eq_zero_iff] at h
 obtain⟨⟨⟨a,b⟩,c⟩,d⟩:=h
 exact⟨a,b,c,d⟩
theorem a2i {c:Cav} (h:H7 c=true):(D7 c).length≤2100:=by
 unfold D7
 cases h3:c.M1
 ·obtain⟨h1,_⟩:=a0O h h3
  have:=I5 (L6 h1)
  simp;omega
 ·obtain⟨_,p0,p1,_,t1,_,b1⟩:=a0N h h3
  have l1:=A8 (n:=c.E8.toNat) (by omega)
  have l2:=a1C t1
  have l3:=a1C b1
  simp;omega
def a0C (l:List Cav):List Pred:=(l.filter fun c => !c.M1).map (·.a1m)
theorem a2j (l:List Cav) (k:Nat) (h:k < l.length):a0C (l.take (k+1))=a0C (l.take k)++if l[k].M1 then [] else [l[k].a1m]:=by
 unfold a0C;rw [List.take_succ_eq_append_getElem h,List.filter_append,List.map_append]
 cases h2:l[k].M1<;>simp [h2]
theorem a0P (l:List Cav):(a0C l).length≤l.length:=by
 unfold a0C;rw [List.length_map];exact List.length_filter_le _ _
def a09 (l:List Cav):Int:=(l.length:Int) - (a0C l).length
def W4 (n:Int):List UInt8 := [109,105,110,116]++K5 n.toNat
def Z6 (c:Cav):List UInt8 := [99,97,118,101,97,116]++(W3 c).1
def G2:List UInt8 := [110,111,100,101]
def D1 (t:List UInt8):List UInt8 := [115,101,97,108]++t
def a0x (t:List UInt8):List UInt8 := [103,114,97,110,116]++t
def W5 (p:Pred):List UInt8 := [99,111,110,100,105,116,105,111,110]++(U3 p).1
def a1a (r:Rq):List UInt8:=K5 r.Gate.toNat++K5 r.E3.toNat
def a2J (r:Rq):List UInt8 := [114,101,113,117,101,115,116]++a1a r
def U4 (leaf:Tag) (r:Rq):List UInt8 := [98,105,110,100]++(leaf.l++a1a r)
def S9 (r:Rq):Bool:=decide (0≤r.Gate)&&decide (r.Gate < 8)&&decide (1≤r.E3)&&decide (r.E3≤281474976710656)
theorem a1b {r:Rq} (h:S9 r=true):0≤r.Gate∧r.Gate < 8∧1≤r.E3∧r.E3≤281474976710656:=by
 unfold S9 at h;simp only [Bool.and_eq_true,decide_eq_true_eq] at h;omega
def X7 (p:Tag→List UInt8→Tag×Bool) (o:Option (List Tag)) (m:List UInt8):Option (List Tag) :=
 o.bind fun l=>if (p (l.getLastD default) m).2 then some (l ++ [(p (l.getLastD default) m).1]) else none
def O5 (p:Tag→List UInt8→Tag×Bool) (k:Tag) (l:List (List UInt8)):Option (List Tag):=l.foldl (X7 p) (some [k])
theorem a5b (p:Tag→List UInt8→Tag×Bool) (l:List (List UInt8)):l.foldl (X7 p) none=none:=by
 induction l with
 | nil=>rfl
 | cons m l ih=>exact ih
theorem a8F (p:Tag→List UInt8→Tag×Bool) (k:Tag) (l:List (List UInt8)) (i:Nat) (h:i < l.length):O5 p k (l.take (i+1))=X7 p (O5 p k (l.take i)) l[i]:=by
 unfold O5;rw [List.take_succ_eq_append_getElem h,List.foldl_append];rfl
theorem b3B (p:Tag→List UInt8→Tag×Bool) (k:Tag) (l:List (List UInt8)) (i:Nat) (h:O5 p k (l.take i)=none):O5 p k l=none:=by
 unfold O5 at *
 rw [←List.take_append_drop i l,List.foldl_append,h,a5b]
def C5 (n:Int) (l:List Cav):List (List UInt8):=W4 n::l.map Z6
def K6 (e n:Int):Bool:=decide (1≤e)&&decide (e≤1000)&&decide (1≤n)&&decide (n≤1073741824)
def X8 (a:C7) (root:p6) (n:Int) (l:List Cav):List Tag×Int :=
 if K6 root.Number n=false then ([],1) else if l.all H7=false then ([],5) else
 match O5 (m8 a) root.Key (C5 n l) with
 | some t=>(t.drop 1,0)
 | none=>([],19)
def Z7 (a:C7) (o:Option (List Tag)) (t:Tag):Option (List Tag) :=
 o.bind fun l=>if (m8 a t G2).2 then some (l ++ [(m8 a t G2).1]) else none
def a0I (a:C7) (l:List Tag):Option (List Tag):=l.foldl (Z7 a) (some [])
theorem a8G (a:C7) (l:List Tag):l.foldl (Z7 a) none=none:=by
 induction l with
 | nil=>rfl
 | cons m l ih=>exact ih
theorem a7r (a:C7) (l:List Tag) (i:Nat) (h:i < l.length):a0I a (l.take (i+1))=Z7 a (a0I a (l.take i)) l[i]:=by
 unfold a0I;rw [List.take_succ_eq_append_getElem h,List.foldl_append];rfl
theorem b1W (a:C7) (l:List Tag) (i:Nat) (h:a0I a (l.take i)=none):a0I a l=none:=by
 unfold a0I at *
 rw [←List.take_append_drop i l,List.foldl_append,h,a8G]
def a1D (a:C7) (l:List Tag):List Tag×Int:=match a0I a l with|some t=>(t,0)|none=>([],19)
def V1 (a:C7) (o:Option Tag) (p:Pred):Option Tag :=
 o.bind fun t=>if A5 p=true∧p.Kind≠7∧(m8 a t (W5 p)).2=true then some (m8 a t (W5 p)).1 else none
theorem a5S (a:C7) (l:List Pred):l.foldl (V1 a) none=none:=by
 induction l with
 | nil=>rfl
 | cons m l ih=>exact ih
def a61 (a:C7) (k:Tag) (t:List UInt8):Option Tag:=if (m8 a k (a0x t)).2 then some (m8 a k (a0x t)).1 else none
def V2 (a:C7) (k:Tag) (t:List UInt8) (l:List Pred):Option Tag:=l.foldl (V1 a) (a61 a k t)
theorem a9I (a:C7) (k:Tag) (t:List UInt8) (l:List Pred) (i:Nat) (h:i < l.length):V2 a k t (l.take (i+1))=V1 a (V2 a k t (l.take i)) l[i]:=by
 unfold V2;rw [List.take_succ_eq_append_getElem h,List.foldl_append];rfl
theorem a62 (a:C7) (k:Tag) (t:List UInt8) (l:List Pred) (i:Nat) (h:V2 a k t (l.take i)=none):V2 a k t l=none:=by
 unfold V2 at *
 rw [←List.take_append_drop i l,List.foldl_append,h,a5S]
def a0g (a:C7) (leaf:Tag) (r:Rq):Tag×Bool:=if S9 r then m8 a leaf (a2J r) else (default,false)
def U5 (a:C7) (t leaf:Tag) (r:Rq):Tag×Bool:=if S9 r then m8 a t (U4 leaf r) else (default,false)
theorem a9c {a:C7} {k:Tag} {m:List UInt8} (h:(m8 a k m).2=false):(m8 a k m).1=default:=by
 unfold m8 O4 at *
 split
 ·next hf=>rw [if_pos hf] at h;cases hq:S0 a k m with|none=>rfl|some x=>rw [hq] at h;cases h
 ·next hf =>
  rw [if_neg hf] at h
  split
  ·rfl
  ·next h2=>rw [if_neg h2] at h;cases h
def a1E (a:C7) (k:Tag) (t:List UInt8) (l:List Pred):Tag×Bool:=((V2 a k t l).getD default,(V2 a k t l).isSome)
theorem b1X (a:C7) (k:Tag) (m:List UInt8):(if (m8 a k m).2=true then some (m8 a k m).1 else none).isSome=(m8 a k m).2∧(if (m8 a k m).2=true then some (m8 a k m).1 else none).getD default=(m8 a k m).1:=by
 cases h:(m8 a k m).2 with
 | false=>rw [if_neg (by decide)];exact⟨rfl,(a9c h).symm⟩
 | true=>rw [if_pos rfl];exact⟨rfl,rfl⟩
theorem a9J (a:C7) (k:Tag) (t:List UInt8) (l:List Pred):(V2 a k t (l.take 0)).isSome=(m8 a k (a0x t)).2∧(V2 a k t (l.take 0)).getD default=(m8 a k (a0x t)).1:=b1X a k (a0x t)
theorem b1Y {a:C7} {k:Tag} {t:List UInt8} {l:List Pred} {i:Nat} (h:i < l.length) (hb:(!A5 l[i]||decide (l[i].Kind=7))=true):V2 a k t l=none:=by
 refine a62 a k t l (i+1) ?_
 rw [a9I a k t l i h]
 cases V2 a k t (l.take i) with
 | none=>rfl
 | some u =>
  unfold V1
  simp only [Option.bind_some]
  rw [if_neg]
  rintro⟨h1,h2,_⟩
  simp [h1,h2] at hb
theorem a9K {a : C7} {k : Tag} {t : List UInt8} {l : List Pred} {i : Nat} (h : i < l.length) (hs : (V2 a k t (l.take i)).isSome = true) (hb : (!A5 l[i] || decide (l[i].Kind = 7)) = false) :
    (V2 a k t (l.take (i+1))).isSome=(m8 a ((V2 a k t (l.take i)).getD default) (W5 l[i])).2∧(V2 a k t (l.take (i+1))).getD default=(m8 a ((V2 a k t (l.take i)).getD default) (W5 l[i])).1:=by
  rw [a9I a k t l i h]
  obtain⟨u,hu⟩:=Option.isSome_iff_exists.1 hs
  rw [hu]
  have hb2:A5 l[i]=true∧l[i].Kind≠7:=by simpa using hb
  have e:V1 a (some u) l[i]=if (m8 a u (W5 l[i])).2=true then some (m8 a u (W5 l[i])).1 else none:=by
    unfold V1
    simp only [Option.bind_some]
    by_cases h3:(m8 a u (W5 l[i])).2=true
    · rw [if_pos ⟨hb2.1,hb2.2,h3⟩,if_pos h3]
    · rw [if_neg fun h4=>h3 h4.2.2,if_neg h3]
  rw [e]
  exact b1X a u _
theorem a7s (p:Pred):decide ((U3 p).2≠0) = !A5 p:=by
 unfold U3
 cases h:A5 p<;>simp
theorem b1Z {s:List Tag} (h:0 < s.length) (h2:((s.length:Int) - 1).toNat < s.length):s[((s.length:Int) - 1).toNat]=s.getLastD default:=by
 rw [List.getLastD_eq_getLast?,List.getLast?_eq_getElem?]
 have:((s.length:Int) - 1).toNat=s.length - 1:=by omega
 simp only [this]
 rw [List.getElem?_eq_getElem (by omega)];rfl
theorem b7L {p:Tag→List UInt8→Tag×Bool} {k:Tag} {l:List (List UInt8)} {i:Nat} {s:List Tag} (h:i < l.length) (hw:O5 p k (l.take i)=some s) (hb:(p (s.getLastD default) l[i]).2=false):O5 p k l=none:=by
 refine b3B p k l (i+1) ?_
 rw [a8F p k l i h,hw]
 show(if (p (s.getLastD default) l[i]).2 then some (s ++ [(p (s.getLastD default) l[i]).1]) else none)=none
 rw [hb];rfl
theorem b5S {p:Tag→List UInt8→Tag×Bool} {k:Tag} {l:List (List UInt8)} {i:Nat} {s:List Tag} (h:i < l.length) (hw:O5 p k (l.take i)=some s) (hb:(p (s.getLastD default) l[i]).2=true):O5 p k (l.take (i+1))=some (s ++ [(p (s.getLastD default) l[i]).1]):=by
 rw [a8F p k l i h,hw]
 show(if (p (s.getLastD default) l[i]).2 then some (s ++ [(p (s.getLastD default) l[i]).1]) else none)=_
 rw [hb];rfl
theorem a8H (n:Int) (l:List Cav) (i:Nat) (h:i < l.length):C5 n (l.take (i+1))=C5 n (l.take i) ++ [Z6 l[i]]:=by
 unfold C5;rw [List.take_succ_eq_append_getElem h,List.map_append];rfl
theorem a5T {p:Tag→List UInt8→Tag×Bool} {k:Tag}:∀ {l:List (List UInt8)} {s r:List Tag},l.foldl (X7 p) (some s)=some r→∃ T,r=s++T∧T.length=l.length
 | [],s,r,h=>⟨[],by cases h;simp,rfl⟩
 | m::l,s,r,h=>by
  rw [List.foldl_cons] at h
  cases h2:X7 p (some s) m with
  | none=>rw [h2,a5b] at h;cases h
  | some v =>
   rw [h2] at h
   obtain⟨T,h3,h4⟩:=a5T (k:=k) h
   have:∃ t,v=s ++ [t]:=by
    have h5:(if (p (s.getLastD default) m).2 then some (s ++ [(p (s.getLastD default) m).1]) else none)=some v:=h2
    split at h5
    ·exact⟨_,(Option.some.inj h5).symm⟩
    ·cases h5
   obtain⟨t,rfl⟩:=this
   exact⟨t::T,by rw [h3,List.append_assoc];rfl,by simp [h4]⟩
theorem a5t (n:Int) (l:List Cav):(C5 n l).length=l.length+1:=by unfold C5;simp
theorem getLastD_cons {k:Tag} {s:List Tag} (h:0 < s.length):(k::s).getLastD default=s.getLastD default:=by
 cases s with
 | nil=>simp at h
 | cons b s=>simp [List.getLastD]
theorem b5T {e n:Int} (h:(decide (e < 1)||decide (1000 < e)||decide (n < 1)||decide (1073741824 < n))=true):K6 e n=false:=by
 simp only [Bool.or_eq_true,decide_eq_true_eq] at h
 unfold K6;simp only [Bool.and_eq_false_iff,decide_eq_false_iff_not];omega
theorem a5U {e n:Int} (h:(decide (e < 1)||decide (1000 < e)||decide (n < 1)||decide (1073741824 < n))=false):K6 e n=true:=by
 simp only [Bool.or_eq_false_iff,decide_eq_false_iff_not] at h
 unfold K6;simp only [Bool.and_eq_true,decide_eq_true_eq];omega
theorem a7t {e n:Int} (h:K6 e n=true):1≤e∧e≤1000∧1≤n∧n≤1073741824:=by
 unfold K6 at h;simp only [Bool.and_eq_true,decide_eq_true_eq] at h;omega
theorem b9z {a:C7} {root:p6} {n:Int} {l:List Cav} (h:K6 root.Number n=false):X8 a root n l=([],1):=by unfold X8;rw [if_pos h]
theorem b9A {a:C7} {root:p6} {n:Int} {l:List Cav} (h:K6 root.Number n=true) (h2:l.all H7=false):X8 a root n l=([],5):=by unfold X8;rw [if_neg (by rw [h];decide),if_pos h2]
theorem b7M {a:C7} {root:p6} {n:Int} {l:List Cav} (h:K6 root.Number n=true) (h2:l.all H7=true) (h3:O5 (m8 a) root.Key (C5 n l)=none):X8 a root n l=([],19):=by
 unfold X8;rw [if_neg (by rw [h];decide),if_neg (by rw [h2];decide),h3]
theorem b9B {a:C7} {root:p6} {n:Int} {l:List Cav} {t:List Tag} (h:K6 root.Number n=true) (h2:l.all H7=true) (h3:O5 (m8 a) root.Key (C5 n l)=some t):X8 a root n l=(t.drop 1,0):=by
 unfold X8;rw [if_neg (by rw [h];decide),if_neg (by rw [h2];decide),h3]
theorem b5U {a:C7} {l:List Tag} {i:Nat} (h:i < l.length) (hb:(m8 a l[i] G2).2=false):a0I a l=none:=by
 refine b1W a l (i+1) ?_
 rw [a7r a l i h]
 cases a0I a (l.take i) with
 | none=>rfl
 | some s =>
  show(if (m8 a l[i] G2).2 then some (s ++ [(m8 a l[i] G2).1]) else none)=none
  rw [hb];rfl
theorem b3C {a:C7} {l:List Tag} {i:Nat} {s:List Tag} (h:i < l.length) (hw:a0I a (l.take i)=some s) (hb:(m8 a l[i] G2).2=true):a0I a (l.take (i+1))=some (s ++ [(m8 a l[i] G2).1]):=by
 rw [a7r a l i h,hw]
 show(if (m8 a l[i] G2).2 then some (s ++ [(m8 a l[i] G2).1]) else none)=_
 rw [hb];rfl
def L7 (d:Bnd):List UInt8:=a0n d.j8++K5 d.l8.length++S5 u4 d.l8++d.Proof.l
def a1c (b:Y0):List UInt8:=numsL [1,b.Request.Gate,b.Request.E3,b.C9,b.y7,b.l9.length]++S5 D7 b.l9++b.Proof.l++K5 b.j4.length++S5 L7 b.j4
def a3n (d:Bnd):Bool:=decide (d.j8.length < 1)||decide (1024 < d.j8.length)||d.l8.any fun p => !A5 p
def a3E (d:Bnd):Bool:=d.l8.any fun p=>decide (p.Kind=7)
def a1L (d:Bnd):Bool:=decide (8 < d.l8.length)
def U6 (l:List Bnd) (k:Nat):Bool:=(List.range k).any fun i=>(l.take i).any fun x=>decide (x.j8=(l.getD i default).j8)
def a3o (l:List Bnd):Bool:=U6 l l.length
theorem a34 (l:List Bnd) (k:Nat) (h:k < l.length):U6 l (k+1)=(U6 l k||(l.take k).any fun x=>decide (x.j8=l[k].j8)):=by
 unfold U6;rw [List.range_succ,List.any_append];simp [List.getD_eq_getElem?_getD,h]
def O6 (b:Y0):Bool:=S9 b.Request&&(decide (1≤b.C9)&&decide (b.C9≤1000)&&decide (1≤b.y7)&&decide (b.y7≤1073741824))
def S2 (b:Y0):Bool:=decide (64 < b.l9.length)||decide (8 < a09 b.l9)||decide (8 < b.j4.length)||b.j4.any a1L
def F6 (b:Y0):Int :=
 if O6 b=false then 1 else if S2 b then 2 else if (b.l9.any fun c => !H7 c)||b.j4.any a3n then 5
 else if b.j4.any a3E then 6 else if a3o b.j4 then 10 else 0
def M8 (b:Y0):Int:=if F6 b≠0 then F6 b else if 4096 < (a1c b).length then 2 else 0
structure a9L (b:Y0):Prop where
 range:O6 b=true
 rq:0≤b.Request.Gate∧b.Request.Gate < 8∧1≤b.Request.E3∧b.Request.E3≤281474976710656
 num:1≤b.C9∧b.C9≤1000∧1≤b.y7∧b.y7≤1073741824
 a4M:b.l9.length≤64
 c2z:b.j4.length≤8
 a7P:∀ d∈b.j4,d.l8.length≤8
 cav:∀ c∈b.l9,H7 c=true
 tick:∀ d∈b.j4,1≤d.j8.length∧d.j8.length≤1024
 con:∀ d∈b.j4,∀ p∈d.l8,A5 p=true
 b7N:∀ d∈b.j4,∀ p∈d.l8,p.Kind≠7
 c3z:a3o b.j4=false
theorem a4N {b:Y0} (h:F6 b=0):a9L b:=by
 unfold F6 at h
 split at h
 ·cases h
 ·next h1 =>
  split at h
  ·cases h
  ·next h2 =>
   split at h
   ·cases h
   ·next h3 =>
    split at h
    ·cases h
    ·next h4 =>
     split at h
     ·cases h
     ·next h5 =>
      have h1:O6 b=true:=by simpa using h1
      have h2:S2 b=false:=by simpa using h2
      simp only [Bool.or_eq_true,not_or,Bool.not_eq_true] at h3
      obtain⟨h3a,h3b⟩:=h3
      have h6:=h1
      unfold O6 at h6
      unfold S2 at h2
      simp only [Bool.and_eq_true,decide_eq_true_eq] at h6
      simp only [Bool.not_eq_true] at h4
      simp only [Bool.or_eq_false_iff,decide_eq_false_iff_not,List.any_eq_false] at h2 h3a h3b h4
      refine⟨h1,a1b h6.1,by omega,by omega,by omega,fun d hd => ?_,fun c hc=>by simpa using h3a c hc,fun d hd => ?_,fun d hd p hp => ?_,fun d hd p hp => ?_,by simpa using h5⟩
      ·have:=h2.2 d hd;unfold a1L at this;simp at this;exact this
      ·have:=h3b d hd;unfold a3n at this;simp only [Bool.not_eq_true,Bool.or_eq_false_iff,decide_eq_false_iff_not] at this;omega
      ·have:=h3b d hd;unfold a3n at this;simp at this;exact this.2 p hp
      ·have:=h4 d hd;unfold a3E at this;simp at this;exact this p hp
theorem b0H {d:Bnd} (h1:d.l8.length≤8) (h2:d.j8.length≤1024) (h3:∀ p∈d.l8,A5 p=true):(L7 d).length≤1400:=by
 have l1:=a1C h2
 have l2:=A8 (n:=d.l8.length) (by omega)
 have l3:=a13 u4 d.l8 24 fun p hp=>I5 (L6 (h3 p hp))
 unfold L7
 simp only [List.length_append,d.Proof.len]
 omega
theorem b2a (m M:UInt64) (k:Nat) (hk:k < 64) (hM:M.toNat=2^k - 1):(m &&& M) >>> UInt64.ofNat k=0:=by
 apply UInt64.toNat_inj.1
 rw [UInt64.toNat_shiftRight,UInt64.toNat_and,hM,Nat.and_two_pow_sub_one_eq_mod,Nat.shiftRight_eq_div_pow]
 have e:(UInt64.ofNat k).toNat=k:=by simp;omega
 rw [e,Nat.mod_eq_of_lt (show k < 64 by omega)]
 show m.toNat % 2^k/2^k=0
 exact Nat.div_eq_of_lt (Nat.mod_lt _ (Nat.two_pow_pos k))
theorem b9C (n:Nat) (hn:n < 64):((1:UInt64) <<< UInt64.ofNat n).toNat=2^n:=by
 rw [UInt64.toNat_shiftLeft]
 have e:(UInt64.ofNat n).toNat=n:=by simp;omega
 rw [e,Nat.mod_eq_of_lt (show n < 64 by omega)]
 show(1 <<< n) % 2^64=2^n
 rw [Nat.one_shiftLeft]
 exact Nat.mod_eq_of_lt (Nat.pow_lt_pow_right (by decide) hn)
theorem ofInt_ofNat {v:Int} (h0:0≤v):UInt64.ofInt v=UInt64.ofNat v.toNat:=by
 obtain⟨n,rfl⟩:=Int.eq_ofNat_of_zero_le h0
 apply UInt64.toNat_inj.1
 simp [UInt64.ofInt];omega
theorem a0o {x:UInt64} {b:Int} (hb:b=64∨b=32∨b=7) (h3:b < 64) (h:¬(x &&& ((1 <<< UInt64.ofInt b) - 1))=0):a07 (x &&& ((1 <<< UInt64.ofInt b) - 1)) b=true:=by
 have h2:(x &&& ((1 <<< UInt64.ofInt b) - 1)) >>> UInt64.ofNat b.toNat=0:=by
  rcases hb with rfl|rfl|rfl
  ·omega
  ·exact b2a x _ 32 (by decide) (by decide)
  ·exact b2a x _ 7 (by decide) (by decide)
 unfold a07;rw [h2];simp [h]
theorem a0p {x:UInt64} {b:Int} (hb:b=64∨b=32∨b=7) (h3:¬b < 64) (h:¬x=0):a07 x b=true:=by
 obtain rfl:b=64:=by omega
 unfold a07;simp [h]
theorem a0q {v b:Int} (hb:b=64∨b=32∨b=7) (h0:0≤v) (h1:v < b):a07 (1 <<< UInt64.ofInt v) b=true:=by
 have hv:v.toNat < 64:=by omega
 have h2:=b9C v.toNat hv
 rw [ofInt_ofNat h0]
 have hne:¬((1:UInt64) <<< UInt64.ofNat v.toNat)=0:=fun e=>by
  rw [e] at h2
  have:=Nat.two_pow_pos v.toNat
  simp at h2;omega
 unfold a07
 by_cases h64:b=64
 ·simp [hne,h64]
 ·have h3:((1:UInt64) <<< UInt64.ofNat v.toNat) >>> UInt64.ofNat b.toNat=0:=by
   apply UInt64.toNat_inj.1
   rw [UInt64.toNat_shiftRight,h2,Nat.shiftRight_eq_div_pow]
   have e:(UInt64.ofNat b.toNat).toNat=b.toNat:=by simp;omega
   rw [e,Nat.mod_eq_of_lt (show b.toNat < 64 by omega)]
   exact Nat.div_eq_of_lt (Nat.pow_lt_pow_right (by decide) (by omega))
  rw [h3];simp [hne]
theorem a4O (w:Value) (d:o5) (b:Int) (hd:L5 d) (hb:b=64∨b=32∨b=7):G5 gl Tryz.prog 85 [dk w,.v b] [.ob w d] (fun r Hs=>∃ m:UInt64,a07 m b=true∧∃ d',L5 d'∧r = .v m∧Hs = [.ob w d']):=by
 refine G5.T9 Tryz.func85 rfl (by kernel_rfl) 45 rfl rfl _ rfl _ rfl fun C hC hG=>(.sr rfl (.p (.assign (.u64 0 rfl) (.nil (.sr rfl (.p (.assign (.u64 0 rfl) (.nil (.seq (.sr rfl (.mv rfl (.h (.D3 hG (I7 _ _ _ (by first|assumption|exact y8 _) (by omega) (by omega)) .z (.cons (.t rfl) (.cons (.i rfl) .nil)) (by rintro _ _ ⟨_,_,_,_,_,_,rfl⟩;exact⟨_,rfl⟩) fun r7 B7 hr7 => ?_)))))))))))))
 obtain⟨v7,d7,h07,h17,hd7,rfl,hB⟩:=hr7
 cases hB
 refine .nil (.block (.sr a8 (.p (.D4 (.t a8) (.i a8) (.ag a8 (.nil (.o8 (.t a8) (fun hc8 => ?_) (fun hc8 => ?_))))))))
 ·refine .region a8 (.mv a8 (.h (.D3 hG (I7 _ _ _ (by first|assumption|exact y8 _) (by omega) (by omega)) .z (.cons (.t a8) (.cons (.i a8) .nil)) (by rintro _ _ ⟨_,_,_,_,_,_,rfl⟩;exact⟨_,rfl⟩) fun r11 B11 hr11 => ?_)))
  obtain⟨v11,d11,h011,h111,hd11,rfl,hB⟩:=hr11
  cases hB
  refine .p (.M5 Tryz.underlying3 Tryz.underlying77 (.t a8) (.ag a8 (.nil (.seq (.sr a8 (.mv a8 (.p (.lss (.t a8) (.i a8) (.nil (.o8 (.t a8) (fun hc30 => ?_) (fun hc30 => ?_)))))))))))
  ·have hbn:(UInt64.ofInt b).toNat < 64:=by rcases hb with rfl|rfl|rfl;omega;decide;decide
   refine .region a8 (.mv a8 (.mv a8 (.p (.M5 Tryz.underlying3 Tryz.underlying213 (.t a8) (.p (.a2q (.u64 1 a8) (.t a8) (by omega) (by omega) (.p (.a7c (.t a8) (.u64 1 a8) (.p (.a77 (.t a8) (.t a8) (.ag a8 (.nil (.seq (.sr a8 (.mv a8 (.p (.a6c (.t a8) (.u64 0 a8) (.nil (.o8 (.t a8) (fun hc38 => ?_) (fun hc38 => ?_))))))))))))))))))))
   ·refine .sr a8 (.mv a8 (.mv a8 (.h (.D3 hG (I7 _ _ _ (by first|assumption|exact y8 _) (by omega) (by omega)) .z (.cons (.t a8) (.cons (.t a8) .nil)) (by rintro _ _ ⟨_,_,_,_,_,_,rfl⟩;exact⟨_,rfl⟩) fun r41 B41 hr41 => ?_))))
    obtain⟨v41,d41,h041,h141,hd41,rfl,hB⟩:=hr41
    cases hB
    have hvn:(UInt64.ofInt v41).toNat < 64:=by rw [ofInt_ofNat h041];simp;omega
    refine .p (.M5 Tryz.underlying3 Tryz.underlying213 (.t a8) (.p (.a2q (.u64 1 a8) (.t a8) (by omega) (by omega) (.ag a8 (.nil (.ret ?_))))))
    refine⟨_,.r1 a8 (.tmp a8),?_⟩
    refine⟨_,.cons .z (.nil),?_⟩
    first|exact⟨_,a0o hb (by assumption) (by assumption),_,by assumption,rfl,rfl⟩|exact⟨_,a0p hb (by assumption) (by assumption),_,by assumption,rfl,rfl⟩|exact⟨_,a0q hb (by assumption) (by assumption),_,by assumption,rfl,rfl⟩
   ·refine .skip (.sr a8 (.mv a8 (.ag a8 (.nil (.ret ?_)))))
    refine⟨_,.r1 a8 (.tmp a8),?_⟩
    refine⟨_,.cons .z (.nil),?_⟩
    first|exact⟨_,a0o hb (by assumption) (by assumption),_,by assumption,rfl,rfl⟩|exact⟨_,a0p hb (by assumption) (by assumption),_,by assumption,rfl,rfl⟩|exact⟨_,a0q hb (by assumption) (by assumption),_,by assumption,rfl,rfl⟩
  ·refine .skip (.seq (.sr a8 (.mv a8 (.p (.a6c (.t a8) (.u64 0 a8) (.nil (.o8 (.t a8) (fun hc38 => ?_) (fun hc38 => ?_))))))))
   ·refine .sr a8 (.mv a8 (.mv a8 (.h (.D3 hG (I7 _ _ _ (by first|assumption|exact y8 _) (by omega) (by omega)) .z (.cons (.t a8) (.cons (.t a8) .nil)) (by rintro _ _ ⟨_,_,_,_,_,_,rfl⟩;exact⟨_,rfl⟩) fun r41 B41 hr41 => ?_))))
    obtain⟨v41,d41,h041,h141,hd41,rfl,hB⟩:=hr41
    cases hB
    have hvn:(UInt64.ofInt v41).toNat < 64:=by rw [ofInt_ofNat h041];simp;omega
    refine .p (.M5 Tryz.underlying3 Tryz.underlying213 (.t a8) (.p (.a2q (.u64 1 a8) (.t a8) (by omega) (by omega) (.ag a8 (.nil (.ret ?_))))))
    refine⟨_,.r1 a8 (.tmp a8),?_⟩
    refine⟨_,.cons .z (.nil),?_⟩
    first|exact⟨_,a0o hb (by assumption) (by assumption),_,by assumption,rfl,rfl⟩|exact⟨_,a0p hb (by assumption) (by assumption),_,by assumption,rfl,rfl⟩|exact⟨_,a0q hb (by assumption) (by assumption),_,by assumption,rfl,rfl⟩
   ·refine .skip (.sr a8 (.mv a8 (.ag a8 (.nil (.ret ?_)))))
    refine⟨_,.r1 a8 (.tmp a8),?_⟩
    refine⟨_,.cons .z (.nil),?_⟩
    first|exact⟨_,a0o hb (by assumption) (by assumption),_,by assumption,rfl,rfl⟩|exact⟨_,a0p hb (by assumption) (by assumption),_,by assumption,rfl,rfl⟩|exact⟨_,a0q hb (by assumption) (by assumption),_,by assumption,rfl,rfl⟩
 ·refine .sr a8 (.p (.D4 (.t a8) (.i a8) (.ag a8 (.nil (.o8 (.t a8) (fun hc13 => ?_) (fun hc13 => ?_))))))
  ·refine .region a8 (.mv a8 (.h (.D3 hG (I7 _ _ _ (by first|assumption|exact y8 _) (by omega) (by omega)) .z (.cons (.t a8) (.cons (.i a8) .nil)) (by rintro _ _ ⟨_,_,_,_,_,_,rfl⟩;exact⟨_,rfl⟩) fun r16 B16 hr16 => ?_)))
   obtain⟨v16,d16,h016,h116,hd16,rfl,hB⟩:=hr16
   cases hB
   refine .p (.M5 Tryz.underlying3 Tryz.underlying77 (.t a8) (.mv a8 (.h (.D3 hG (I7 _ _ _ (by first|assumption|exact y8 _) (by omega) (by omega)) .z (.cons (.t a8) (.cons (.i a8) .nil)) (by rintro _ _ ⟨_,_,_,_,_,_,rfl⟩;exact⟨_,rfl⟩) fun r19 B19 hr19 => ?_))))
   obtain⟨v19,d19,h019,h119,hd19,rfl,hB⟩:=hr19
   cases hB
   refine .p (.M5 Tryz.underlying3 Tryz.underlying77 (.t a8) (.p (.a2q (.t a8) (.u64 48 a8) (by omega) (by simp) (.p (.c0Q (.t a8) (.t a8) (.ag a8 (.nil (.seq (.sr a8 (.mv a8 (.p (.lss (.t a8) (.i a8) (.nil (.o8 (.t a8) (fun hc30 => ?_) (fun hc30 => ?_)))))))))))))))
   ·have hbn:(UInt64.ofInt b).toNat < 64:=by rcases hb with rfl|rfl|rfl;omega;decide;decide
    refine .region a8 (.mv a8 (.mv a8 (.p (.M5 Tryz.underlying3 Tryz.underlying213 (.t a8) (.p (.a2q (.u64 1 a8) (.t a8) (by omega) (by omega) (.p (.a7c (.t a8) (.u64 1 a8) (.p (.a77 (.t a8) (.t a8) (.ag a8 (.nil (.seq (.sr a8 (.mv a8 (.p (.a6c (.t a8) (.u64 0 a8) (.nil (.o8 (.t a8) (fun hc38 => ?_) (fun hc38 => ?_))))))))))))))))))))
    ·refine .sr a8 (.mv a8 (.mv a8 (.h (.D3 hG (I7 _ _ _ (by first|assumption|exact y8 _) (by omega) (by omega)) .z (.cons (.t a8) (.cons (.t a8) .nil)) (by rintro _ _ ⟨_,_,_,_,_,_,rfl⟩;exact⟨_,rfl⟩) fun r41 B41 hr41 => ?_))))
     obtain⟨v41,d41,h041,h141,hd41,rfl,hB⟩:=hr41
     cases hB
     have hvn:(UInt64.ofInt v41).toNat < 64:=by rw [ofInt_ofNat h041];simp;omega
     refine .p (.M5 Tryz.underlying3 Tryz.underlying213 (.t a8) (.p (.a2q (.u64 1 a8) (.t a8) (by omega) (by omega) (.ag a8 (.nil (.ret ?_))))))
     refine⟨_,.r1 a8 (.tmp a8),?_⟩
     refine⟨_,.cons .z (.nil),?_⟩
     first|exact⟨_,a0o hb (by assumption) (by assumption),_,by assumption,rfl,rfl⟩|exact⟨_,a0p hb (by assumption) (by assumption),_,by assumption,rfl,rfl⟩|exact⟨_,a0q hb (by assumption) (by assumption),_,by assumption,rfl,rfl⟩
    ·refine .skip (.sr a8 (.mv a8 (.ag a8 (.nil (.ret ?_)))))
     refine⟨_,.r1 a8 (.tmp a8),?_⟩
     refine⟨_,.cons .z (.nil),?_⟩
     first|exact⟨_,a0o hb (by assumption) (by assumption),_,by assumption,rfl,rfl⟩|exact⟨_,a0p hb (by assumption) (by assumption),_,by assumption,rfl,rfl⟩|exact⟨_,a0q hb (by assumption) (by assumption),_,by assumption,rfl,rfl⟩
   ·refine .skip (.seq (.sr a8 (.mv a8 (.p (.a6c (.t a8) (.u64 0 a8) (.nil (.o8 (.t a8) (fun hc38 => ?_) (fun hc38 => ?_))))))))
    ·refine .sr a8 (.mv a8 (.mv a8 (.h (.D3 hG (I7 _ _ _ (by first|assumption|exact y8 _) (by omega) (by omega)) .z (.cons (.t a8) (.cons (.t a8) .nil)) (by rintro _ _ ⟨_,_,_,_,_,_,rfl⟩;exact⟨_,rfl⟩) fun r41 B41 hr41 => ?_))))
     obtain⟨v41,d41,h041,h141,hd41,rfl,hB⟩:=hr41
     cases hB
     have hvn:(UInt64.ofInt v41).toNat < 64:=by rw [ofInt_ofNat h041];simp;omega
     refine .p (.M5 Tryz.underlying3 Tryz.underlying213 (.t a8) (.p (.a2q (.u64 1 a8) (.t a8) (by omega) (by omega) (.ag a8 (.nil (.ret ?_))))))
     refine⟨_,.r1 a8 (.tmp a8),?_⟩
     refine⟨_,.cons .z (.nil),?_⟩
     first|exact⟨_,a0o hb (by assumption) (by assumption),_,by assumption,rfl,rfl⟩|exact⟨_,a0p hb (by assumption) (by assumption),_,by assumption,rfl,rfl⟩|exact⟨_,a0q hb (by assumption) (by assumption),_,by assumption,rfl,rfl⟩
    ·refine .skip (.sr a8 (.mv a8 (.ag a8 (.nil (.ret ?_)))))
     refine⟨_,.r1 a8 (.tmp a8),?_⟩
     refine⟨_,.cons .z (.nil),?_⟩
     first|exact⟨_,a0o hb (by assumption) (by assumption),_,by assumption,rfl,rfl⟩|exact⟨_,a0p hb (by assumption) (by assumption),_,by assumption,rfl,rfl⟩|exact⟨_,a0q hb (by assumption) (by assumption),_,by assumption,rfl,rfl⟩
  ·refine .sr a8 (.p (.D4 (.t a8) (.i a8) (.ag a8 (.nil (.o8 (.t a8) (fun hc23 => ?_) (fun hc23 => ?_))))))
   ·refine .region a8 (.mv a8 (.h (.D3 hG (I7 _ _ _ (by first|assumption|exact y8 _) (by omega) (by omega)) .z (.cons (.t a8) (.cons (.i a8) .nil)) (by rintro _ _ ⟨_,_,_,_,_,_,rfl⟩;exact⟨_,rfl⟩) fun r26 B26 hr26 => ?_)))
    obtain⟨v26,d26,h026,h126,hd26,rfl,hB⟩:=hr26
    cases hB
    refine .p (.M5 Tryz.underlying3 Tryz.underlying77 (.t a8) (.p (.b6E (.t a8) (.ag a8 (.nil (.seq (.sr a8 (.mv a8 (.p (.lss (.t a8) (.i a8) (.nil (.o8 (.t a8) (fun hc30 => ?_) (fun hc30 => ?_)))))))))))))
    ·have hbn:(UInt64.ofInt b).toNat < 64:=by rcases hb with rfl|rfl|rfl;omega;decide;decide
     refine .region a8 (.mv a8 (.mv a8 (.p (.M5 Tryz.underlying3 Tryz.underlying213 (.t a8) (.p (.a2q (.u64 1 a8) (.t a8) (by omega) (by omega) (.p (.a7c (.t a8) (.u64 1 a8) (.p (.a77 (.t a8) (.t a8) (.ag a8 (.nil (.seq (.sr a8 (.mv a8 (.p (.a6c (.t a8) (.u64 0 a8) (.nil (.o8 (.t a8) (fun hc38 => ?_) (fun hc38 => ?_))))))))))))))))))))
     ·refine .sr a8 (.mv a8 (.mv a8 (.h (.D3 hG (I7 _ _ _ (by first|assumption|exact y8 _) (by omega) (by omega)) .z (.cons (.t a8) (.cons (.t a8) .nil)) (by rintro _ _ ⟨_,_,_,_,_,_,rfl⟩;exact⟨_,rfl⟩) fun r41 B41 hr41 => ?_))))
      obtain⟨v41,d41,h041,h141,hd41,rfl,hB⟩:=hr41
      cases hB
      have hvn:(UInt64.ofInt v41).toNat < 64:=by rw [ofInt_ofNat h041];simp;omega
      refine .p (.M5 Tryz.underlying3 Tryz.underlying213 (.t a8) (.p (.a2q (.u64 1 a8) (.t a8) (by omega) (by omega) (.ag a8 (.nil (.ret ?_))))))
      refine⟨_,.r1 a8 (.tmp a8),?_⟩
      refine⟨_,.cons .z (.nil),?_⟩
      first|exact⟨_,a0o hb (by assumption) (by assumption),_,by assumption,rfl,rfl⟩|exact⟨_,a0p hb (by assumption) (by assumption),_,by assumption,rfl,rfl⟩|exact⟨_,a0q hb (by assumption) (by assumption),_,by assumption,rfl,rfl⟩
     ·refine .skip (.sr a8 (.mv a8 (.ag a8 (.nil (.ret ?_)))))
      refine⟨_,.r1 a8 (.tmp a8),?_⟩
      refine⟨_,.cons .z (.nil),?_⟩
      first|exact⟨_,a0o hb (by assumption) (by assumption),_,by assumption,rfl,rfl⟩|exact⟨_,a0p hb (by assumption) (by assumption),_,by assumption,rfl,rfl⟩|exact⟨_,a0q hb (by assumption) (by assumption),_,by assumption,rfl,rfl⟩
    ·refine .skip (.seq (.sr a8 (.mv a8 (.p (.a6c (.t a8) (.u64 0 a8) (.nil (.o8 (.t a8) (fun hc38 => ?_) (fun hc38 => ?_))))))))
     ·refine .sr a8 (.mv a8 (.mv a8 (.h (.D3 hG (I7 _ _ _ (by first|assumption|exact y8 _) (by omega) (by omega)) .z (.cons (.t a8) (.cons (.t a8) .nil)) (by rintro _ _ ⟨_,_,_,_,_,_,rfl⟩;exact⟨_,rfl⟩) fun r41 B41 hr41 => ?_))))
      obtain⟨v41,d41,h041,h141,hd41,rfl,hB⟩:=hr41
      cases hB
      have hvn:(UInt64.ofInt v41).toNat < 64:=by rw [ofInt_ofNat h041];simp;omega
      refine .p (.M5 Tryz.underlying3 Tryz.underlying213 (.t a8) (.p (.a2q (.u64 1 a8) (.t a8) (by omega) (by omega) (.ag a8 (.nil (.ret ?_))))))
      refine⟨_,.r1 a8 (.tmp a8),?_⟩
      refine⟨_,.cons .z (.nil),?_⟩
      first|exact⟨_,a0o hb (by assumption) (by assumption),_,by assumption,rfl,rfl⟩|exact⟨_,a0p hb (by assumption) (by assumption),_,by assumption,rfl,rfl⟩|exact⟨_,a0q hb (by assumption) (by assumption),_,by assumption,rfl,rfl⟩
     ·refine .skip (.sr a8 (.mv a8 (.ag a8 (.nil (.ret ?_)))))
      refine⟨_,.r1 a8 (.tmp a8),?_⟩
      refine⟨_,.cons .z (.nil),?_⟩
      first|exact⟨_,a0o hb (by assumption) (by assumption),_,by assumption,rfl,rfl⟩|exact⟨_,a0p hb (by assumption) (by assumption),_,by assumption,rfl,rfl⟩|exact⟨_,a0q hb (by assumption) (by assumption),_,by assumption,rfl,rfl⟩
   ·refine .skip (.seq (.sr a8 (.mv a8 (.p (.lss (.t a8) (.i a8) (.nil (.o8 (.t a8) (fun hc30 => ?_) (fun hc30 => ?_))))))))
    ·have hbn:(UInt64.ofInt b).toNat < 64:=by rcases hb with rfl|rfl|rfl;omega;decide;decide
     refine .region a8 (.mv a8 (.mv a8 (.p (.M5 Tryz.underlying3 Tryz.underlying213 (.t a8) (.p (.a2q (.u64 1 a8) (.t a8) (by omega) (by omega) (.p (.a7c (.t a8) (.u64 1 a8) (.p (.a77 (.t a8) (.t a8) (.ag a8 (.nil (.seq (.sr a8 (.mv a8 (.p (.a6c (.t a8) (.u64 0 a8) (.nil (.o8 (.t a8) (fun hc38 => ?_) (fun hc38 => ?_))))))))))))))))))))
     ·refine .sr a8 (.mv a8 (.mv a8 (.h (.D3 hG (I7 _ _ _ (by first|assumption|exact y8 _) (by omega) (by omega)) .z (.cons (.t a8) (.cons (.t a8) .nil)) (by rintro _ _ ⟨_,_,_,_,_,_,rfl⟩;exact⟨_,rfl⟩) fun r41 B41 hr41 => ?_))))
      obtain⟨v41,d41,h041,h141,hd41,rfl,hB⟩:=hr41
      cases hB
      have hvn:(UInt64.ofInt v41).toNat < 64:=by rw [ofInt_ofNat h041];simp;omega
      refine .p (.M5 Tryz.underlying3 Tryz.underlying213 (.t a8) (.p (.a2q (.u64 1 a8) (.t a8) (by omega) (by omega) (.ag a8 (.nil (.ret ?_))))))
      refine⟨_,.r1 a8 (.tmp a8),?_⟩
      refine⟨_,.cons .z (.nil),?_⟩
      first|exact⟨_,a0o hb (by assumption) (by assumption),_,by assumption,rfl,rfl⟩|exact⟨_,a0p hb (by assumption) (by assumption),_,by assumption,rfl,rfl⟩|exact⟨_,a0q hb (by assumption) (by assumption),_,by assumption,rfl,rfl⟩
     ·refine .skip (.sr a8 (.mv a8 (.ag a8 (.nil (.ret ?_)))))
      refine⟨_,.r1 a8 (.tmp a8),?_⟩
      refine⟨_,.cons .z (.nil),?_⟩
      first|exact⟨_,a0o hb (by assumption) (by assumption),_,by assumption,rfl,rfl⟩|exact⟨_,a0p hb (by assumption) (by assumption),_,by assumption,rfl,rfl⟩|exact⟨_,a0q hb (by assumption) (by assumption),_,by assumption,rfl,rfl⟩
    ·refine .skip (.seq (.sr a8 (.mv a8 (.p (.a6c (.t a8) (.u64 0 a8) (.nil (.o8 (.t a8) (fun hc38 => ?_) (fun hc38 => ?_))))))))
     ·refine .sr a8 (.mv a8 (.mv a8 (.h (.D3 hG (I7 _ _ _ (by first|assumption|exact y8 _) (by omega) (by omega)) .z (.cons (.t a8) (.cons (.t a8) .nil)) (by rintro _ _ ⟨_,_,_,_,_,_,rfl⟩;exact⟨_,rfl⟩) fun r41 B41 hr41 => ?_))))
      obtain⟨v41,d41,h041,h141,hd41,rfl,hB⟩:=hr41
      cases hB
      have hvn:(UInt64.ofInt v41).toNat < 64:=by rw [ofInt_ofNat h041];simp;omega
      refine .p (.M5 Tryz.underlying3 Tryz.underlying213 (.t a8) (.p (.a2q (.u64 1 a8) (.t a8) (by omega) (by omega) (.ag a8 (.nil (.ret ?_))))))
      refine⟨_,.r1 a8 (.tmp a8),?_⟩
      refine⟨_,.cons .z (.nil),?_⟩
      first|exact⟨_,a0o hb (by assumption) (by assumption),_,by assumption,rfl,rfl⟩|exact⟨_,a0p hb (by assumption) (by assumption),_,by assumption,rfl,rfl⟩|exact⟨_,a0q hb (by assumption) (by assumption),_,by assumption,rfl,rfl⟩
     ·refine .skip (.sr a8 (.mv a8 (.ag a8 (.nil (.ret ?_)))))
      refine⟨_,.r1 a8 (.tmp a8),?_⟩
      refine⟨_,.cons .z (.nil),?_⟩
      first|exact⟨_,a0o hb (by assumption) (by assumption),_,by assumption,rfl,rfl⟩|exact⟨_,a0p hb (by assumption) (by assumption),_,by assumption,rfl,rfl⟩|exact⟨_,a0q hb (by assumption) (by assumption),_,by assumption,rfl,rfl⟩
theorem a1M (w:Value) (d:o5) (hd:L5 d):G5 gl Tryz.prog 54 [dk w] [.ob w d] (fun r Hs=>∃ v:Int,0≤v∧v≤67108864∧∃ d',L5 d'∧r = .v v∧Hs = [.ob w d']):=by
 refine G5.T9 Tryz.func54 rfl (by kernel_rfl) 25 rfl rfl _ rfl _ rfl fun C hC hG=>(.sr rfl (.p (.assign (.i rfl) (.nil (.seq (.sr rfl (.mv rfl (.h (.D3 hG (I7 _ _ _ (by first|assumption|exact y8 _) (by omega) (by omega)) .z (.cons (.t rfl) (.cons (.i rfl) .nil)) (by rintro _ _ ⟨_,_,_,_,_,_,rfl⟩;exact⟨_,rfl⟩) fun r4 B4 hr4 => ?_)))))))))
 obtain⟨v4,d4,h04,h14,hd4,rfl,hB⟩:=hr4
 cases hB
 refine .nil (.block (.sr a8 (.p (.D4 (.t a8) (.i a8) (.ag a8 (.nil (.o8 (.t a8) (fun hc5 => ?_) (fun hc5 => ?_))))))))
 ·refine .sr a8 (.mv a8 (.h (.D3 hG (I7 _ _ _ (by first|assumption|exact y8 _) (by omega) (by omega)) .z (.cons (.t a8) (.cons (.i a8) .nil)) (by rintro _ _ ⟨_,_,_,_,_,_,rfl⟩;exact⟨_,rfl⟩) fun r8 B8 hr8 => ?_)))
  obtain⟨v8,d8,h08,h18,hd8,rfl,hB⟩:=hr8
  cases hB
  refine .ag a8 (.nil (.ret ?_))
  refine⟨_,.r1 a8 (.tmp a8),?_⟩
  refine⟨_,.cons .z (.nil),?_⟩
  exact⟨_,by omega,by omega,_,by assumption,rfl,rfl⟩
 ·refine .sr a8 (.p (.D4 (.t a8) (.i a8) (.ag a8 (.nil (.o8 (.t a8) (fun hc9 => ?_) (fun hc9 => ?_))))))
  ·refine .sr a8 (.mv a8 (.h (.D3 hG (I7 _ _ _ (by first|assumption|exact y8 _) (by omega) (by omega)) .z (.cons (.t a8) (.cons (.i a8) .nil)) (by rintro _ _ ⟨_,_,_,_,_,_,rfl⟩;exact⟨_,rfl⟩) fun r12 B12 hr12 => ?_)))
   obtain⟨v12,d12,h012,h112,hd12,rfl,hB⟩:=hr12
   cases hB
   refine .p (.mul (.t a8) (.i a8) (by omega) (by omega) (.mv a8 (.h (.D3 hG (I7 _ _ _ (by first|assumption|exact y8 _) (by omega) (by omega)) .z (.cons (.t a8) (.cons (.i a8) .nil)) (by rintro _ _ ⟨_,_,_,_,_,_,rfl⟩;exact⟨_,rfl⟩) fun r15 B15 hr15 => ?_))))
   obtain⟨v15,d15,h015,h115,hd15,rfl,hB⟩:=hr15
   cases hB
   refine .p (.add (.t a8) (.t a8) (by omega) (by omega) (.p (.a9Y (.t a8) (.i a8) (.ag a8 (.nil (.ret ?_))))))
   refine⟨_,.r1 a8 (.tmp a8),?_⟩
   refine⟨_,.cons .z (.nil),?_⟩
   exact⟨_,by omega,by omega,_,by assumption,rfl,rfl⟩
  ·refine .sr a8 (.p (.D4 (.t a8) (.i a8) (.ag a8 (.nil (.o8 (.t a8) (fun hc18 => ?_) (fun hc18 => ?_))))))
   ·refine .sr a8 (.mv a8 (.h (.D3 hG (I7 _ _ _ (by first|assumption|exact y8 _) (by omega) (by omega)) .z (.cons (.t a8) (.cons (.i a8) .nil)) (by rintro _ _ ⟨_,_,_,_,_,_,rfl⟩;exact⟨_,rfl⟩) fun r21 B21 hr21 => ?_)))
    obtain⟨v21,d21,h021,h121,hd21,rfl,hB⟩:=hr21
    cases hB
    refine .p (.sub (.i a8) (.t a8) (by omega) (by omega) (.ag a8 (.nil (.ret ?_))))
    refine⟨_,.r1 a8 (.tmp a8),?_⟩
    refine⟨_,.cons .z (.nil),?_⟩
    exact⟨_,by omega,by omega,_,by assumption,rfl,rfl⟩
   ·refine .skip (.sr a8 (.mv a8 (.h (.D3 hG (I7 _ _ _ (by first|assumption|exact y8 _) (by omega) (by omega)) .z (.cons (.t a8) (.cons (.i a8) .nil)) (by rintro _ _ ⟨_,_,_,_,_,_,rfl⟩;exact⟨_,rfl⟩) fun r24 B24 hr24 => ?_))))
    obtain⟨v24,d24,h024,h124,hd24,rfl,hB⟩:=hr24
    cases hB
    refine .ag a8 (.nil (.ret ?_))
    refine⟨_,.r1 a8 (.tmp a8),?_⟩
    refine⟨_,.cons .z (.nil),?_⟩
    exact⟨_,by omega,by omega,_,by assumption,rfl,rfl⟩
theorem b3E (w:Value) (d:o5) (hd:L5 d):G5 gl Tryz.prog 55 [dk w] [.ob w d] (fun r Hs=>∃ s:Str,S8 s=true∧∃ d',L5 d'∧r = .v s∧Hs = [.ob w d']):=by
 have hn:=Z1 (d:=d) (n:=8) (by decide)
 refine G5.intro Tryz.func55 rfl (by kernel_rfl) 8 rfl rfl _ rfl _ rfl fun C hC hG=>(.sr rfl (.p (.assign (.s [] (by decide) (by decide)) (.nil (.sr rfl (.h (.buildSlice (α:=Str) ty9 Tryz.underlying71 (.cons (.s [97] (by decide) (by decide)) (.cons (.s [98] (by decide) (by decide)) (.cons (.s [97,110,110] (by decide) (by decide)) (.cons (.s [98,111,98] (by decide) (by decide)) (.cons (.s [99,105,100] (by decide) (by decide)) (.cons (.s [122,111,101] (by decide) (by decide)) (.cons (.s [97,97] (by decide) (by decide)) (.cons (.s [97,98,99,100,101,102,103,104,105,106,107,108,109,110,111,112] (by decide) (by decide)) .nil)))))))) rfl (by decide) fun b3 => .mv rfl (.h (.D3 hG (a4B _ _ _ hd (by omega) (by omega)) .z1 (.cons (.t rfl) (.cons (.i rfl) .nil)) (by rintro _ _ ⟨_,rfl⟩;exact⟨_,rfl⟩) fun r5 B5 hr5 => ?_)))))))))
 obtain⟨rfl,hB⟩:=hr5
 cases hB
 refine .p (.a2z ty9 Tryz.underlying71 a8 .z (.t a8) (by omega) (by simp;omega) (.p (.b7j ty9 (.t a8) .z (by simp;omega) (.ag a8 (.nil (.drop (.ret ?_)))))))
 refine⟨_,.r1 a8 (.tmp a8),?_⟩
 refine⟨_,?_,_,V7 hd,a8,a8⟩
 refine(show ∀ s∈_,S8 s=true from ?_) _ (List.getElem_mem _)
 decide
theorem E4 {k:Int} {m:UInt64} (hk:k=1∨k=2∨k=3) (h:a07 m (G9 k)=true):A5 ⟨k,m,0,0,⟨[]⟩,0⟩=true:=by
 unfold A5;rw [if_pos hk];dsimp only;rw [h];simp
theorem I8 {a b:Int} (h0:0≤a) (h1:a≤b) (h2:b≤67108864):A5 ⟨4,0,a,b,⟨[]⟩,0⟩=true:=by
 unfold A5;simp [h0,h1,h2]
theorem L8 {a b:Int} (h0:0≤a) (h1:a < 1440) (h2:0≤b) (h3:b < 1440):A5 ⟨5,0,a,b,⟨[]⟩,0⟩=true:=by
 unfold A5;simp [h0,h1,h2,h3]
theorem Q9 {s:Str} (h:S8 s=true):A5 ⟨6,0,0,0,s,0⟩=true:=by unfold A5;simp [h]
theorem M9 {n:Int} (h0:0≤n) (h1:n≤1000000):A5 ⟨7,0,0,0,⟨[]⟩,n⟩=true:=by unfold A5;simp [h0,h1]
theorem a0h (w:Value) (d:o5) (b7N:Bool) (hd:L5 d):G5 gl Tryz.prog 34 [dk w,.v b7N] [.ob w d] (fun r Hs=>∃ p:Pred,A5 p=true∧(b7N=false→p.Kind≠7)∧∃ d',L5 d'∧r = .v p∧Hs = [.ob w d']):=by
 refine G5.T9 Tryz.func34 rfl (by kernel_rfl) 81 rfl rfl _ rfl _ rfl fun C hC hG=>(.sr rfl (.h (.alloc A7 fun b4=>(.nil (.sr rfl (.mv rfl (.h (.D3 hG (b0D _ _ _ _ (by first|assumption|exact y8 _) (by omega) (by omega) (by omega)) .z1 (.cons (.t rfl) (.cons (.i rfl) (.cons (.i rfl) .nil))) (by rintro _ _ ⟨_,_,_,_,_,_,rfl⟩;exact⟨_,rfl⟩) fun r9 B9 hr9 => ?_))))))))
 obtain⟨v9,d9,h09,h19,hd9,rfl,hB⟩:=hr9
 cases hB
 refine .p (.bS1 j3.l0 a8 A7 a7K (fun c0=>(⟨c0,0,0,0,⟨[]⟩,0⟩:j3)) (fun _=>a8) a8 a8 (.t a8) (.h (.alloc A7 fun b5 => .n (.C8 A7 (.t a8) (.t a8) .z (.nil (.seq (.sr a8 (.p (.x4 j3.l0 U8 a8 (.t a8) (.p (.K0 (fun x=>x.Kind) D0 (.t a8) .z (fun _=>a8) (.p (.D4 (.t a8) (.i a8) (.mv a8 (.go 14 a8 (.t a8) (fun hg15 => .move (.t a8) a8) (.go 14 a8 (.t a8) (fun hg16 => .not (.q a8 hg16) a8) (.p (.u0 (.t a8) (fun hp=>(.q a8 hp)) (.nil (.cond (.t a8) (fun hc17 => ?_) (fun hc17 => ?_)))))))))))))))))))))
 ·refine .region rfl (.p (.x4 j3.l0 U8 rfl (.t rfl) (.n (.U0 (fun y x => { x with Kind:=y }) D0 (.t rfl) (.i rfl) .z (fun _ _=>rfl) (.nil (.seq (.sr rfl (.p (.x4 j3.l0 U8 rfl (.t rfl) (.p (.K0 (fun x=>x.Kind) D0 (.t rfl) .z (fun _=>rfl) (.nil (.block (.sr rfl (.p (.D4 (.t rfl) (.i rfl) (.ag rfl (.nil (.o8 (.t rfl) (fun hc21=>(by exfalso;exact absurd hc21 (show ¬(4:Int)=1 by decide))) (fun hc21=>(.seq ?_)))))))))))))))))))))
  refine .region rfl (.p (.D4 (.t rfl) (.i rfl) (.ag rfl (.nil (.o8 (.t rfl) (fun hc26=>(by exfalso;exact absurd hc26 (show ¬(4:Int)=2 by decide))) (fun hc26=>(.sr rfl (.p (.D4 (.t rfl) (.i rfl) (.ag rfl (.nil (.o8 (.t rfl) (fun hc31=>(by exfalso;exact absurd hc31 (show ¬(4:Int)=3 by decide))) (fun hc31=>(.sr rfl (.p (.D4 (.t rfl) (.i rfl) (.ag rfl (.nil (.o8 (.t rfl) (fun hc36 => ?_) (fun hc36=>(by exfalso;exact hc36 rfl)))))))))))))))))))))
  refine .sr a8 (.mv a8 (.h (.D3 hG (a1M _ _ (by assumption)) .z2 (.cons (.t a8) .nil) (by rintro _ _ ⟨_,_,_,_,_,_,rfl⟩;exact⟨_,rfl⟩) fun r39 B39 hr39 => ?_)))
  obtain⟨v39,h039,h139,d39,hd39,rfl,hB⟩:=hr39
  cases hB
  refine .mv a8 (.h (.D3 hG (a1M _ _ (by assumption)) .z2 (.cons (.t a8) .nil) (by rintro _ _ ⟨_,_,_,_,_,_,rfl⟩;exact⟨_,rfl⟩) fun r41 B41 hr41 => ?_))
  obtain⟨v41,h041,h141,d41,hd41,rfl,hB⟩:=hr41
  cases hB
  refine .ag a8 (.ag a8 (.nil (.region a8 (.mv a8 (.mv a8 (.p (.a9Y (.t a8) (.t a8) (.mv a8 (.mv a8 (.p (.b8U (.t a8) (.t a8) (.p (.x4 j3.l2 G0 a8 (.t a8) (.n (.U0 (fun y x => { x with J8:=y }) D0 (.t a8) (.t a8) .z (fun _ _=>a8) (.p (.x4 j3.l3 G1 a8 (.t a8) (.n (.U0 (fun y x => { x with To:=y }) D0 (.t a8) (.t a8) .z (fun _ _=>a8) (.nil (.sr a8 (.p (.I4 A7 (.t a8) .z (.n (.C8 A7 (.t a8) (.t a8) .z1 (.nil (.ret ?_)))))))))))))))))))))))))))
  refine⟨_,.r1 a8 (.cell A7 a8 .z1),?_⟩
  refine⟨_,.cons .z2 (.nil),?_⟩
  first|(exfalso;(try dsimp only at *);omega)|exact⟨⟨4,0,min v39 v41,max v39 v41,⟨[]⟩,0⟩,I8 (by omega) (by omega) (by omega),fun _=>(show(4:Int)≠7 by decide),_,by assumption,rfl,rfl⟩|(obtain rfl:v9=1:=(by assumption);exact⟨_,E4 (Or.inl rfl) (by assumption),fun _=>(show(1:Int)≠7 by decide),_,by assumption,rfl,rfl⟩)|(obtain rfl:v9=2:=(by assumption);exact⟨_,E4 (Or.inr (Or.inl rfl)) (by assumption),fun _=>(show(2:Int)≠7 by decide),_,by assumption,rfl,rfl⟩)|(obtain rfl:v9=3:=(by assumption);exact⟨_,E4 (Or.inr (Or.inr rfl)) (by assumption),fun _=>(show(3:Int)≠7 by decide),_,by assumption,rfl,rfl⟩)|(obtain rfl:v9=4:=(by assumption);exact⟨⟨4,0,min v39 v41,max v39 v41,⟨[]⟩,0⟩,I8 (by omega) (by omega) (by omega),fun _=>(show(4:Int)≠7 by decide),_,by assumption,rfl,rfl⟩)|(obtain rfl:v9=5:=(by assumption);exact⟨⟨5,0,v53,v55,⟨[]⟩,0⟩,L8 (by omega) (by omega) (by omega) (by omega),fun _=>(show(5:Int)≠7 by decide),_,by assumption,rfl,rfl⟩)|(obtain rfl:v9=5:=(by assumption);exact⟨⟨5,0,v53,(v53+v64+1440 - 1) % 1440,⟨[]⟩,0⟩,L8 (by omega) (by omega) (by omega) (by omega),fun _=>(show(5:Int)≠7 by decide),_,by assumption,rfl,rfl⟩)|(obtain rfl:v9=6:=(by assumption);exact⟨_,Q9 (by assumption),fun _=>(show(6:Int)≠7 by decide),_,by assumption,rfl,rfl⟩)|(obtain rfl:v9=7:=(by assumption);exact⟨⟨7,0,0,0,⟨[]⟩,v78⟩,M9 (by omega) (by omega),fun h=>(by subst h;simp at hc17),_,by assumption,rfl,rfl⟩)
 ·refine .skip (.seq (.sr a8 (.p (.x4 j3.l0 U8 a8 (.t a8) (.p (.K0 (fun x=>x.Kind) D0 (.t a8) .z (fun _=>a8) (.nil (.block (.sr a8 (.p (.D4 (.t a8) (.i a8) (.ag a8 (.nil (.o8 (.t a8) (fun hc21 => ?_) (fun hc21 => ?_)))))))))))))))
  ·refine .region a8 (.mv a8 (.h (.D3 hG (a4O _ _ _ (by assumption) (by decide)) .z2 (.cons (.t a8) (.cons (.i a8) .nil)) (by rintro _ _ ⟨_,_,_,_,_,rfl⟩;exact⟨_,rfl⟩) fun r24 B24 hr24 => ?_)))
   obtain⟨m24,hm24,d24,hd24,rfl,hB⟩:=hr24
   cases hB
   refine .p (.x4 j3.l1 O2 a8 (.t a8) (.n (.U0 (fun y x => { x with Mask:=y }) a1i (.t a8) (.t a8) .z (fun _ _=>a8) (.nil (.sr a8 (.p (.I4 A7 (.t a8) .z (.n (.C8 A7 (.t a8) (.t a8) .z1 (.nil (.ret ?_)))))))))))
   refine⟨_,.r1 a8 (.cell A7 a8 .z1),?_⟩
   refine⟨_,.cons .z2 (.nil),?_⟩
   first|(exfalso;(try dsimp only at *);omega)|exact⟨⟨4,0,min v39 v41,max v39 v41,⟨[]⟩,0⟩,I8 (by omega) (by omega) (by omega),fun _=>(show(4:Int)≠7 by decide),_,by assumption,rfl,rfl⟩|(obtain rfl:v9=1:=(by assumption);exact⟨_,E4 (Or.inl rfl) (by assumption),fun _=>(show(1:Int)≠7 by decide),_,by assumption,rfl,rfl⟩)|(obtain rfl:v9=2:=(by assumption);exact⟨_,E4 (Or.inr (Or.inl rfl)) (by assumption),fun _=>(show(2:Int)≠7 by decide),_,by assumption,rfl,rfl⟩)|(obtain rfl:v9=3:=(by assumption);exact⟨_,E4 (Or.inr (Or.inr rfl)) (by assumption),fun _=>(show(3:Int)≠7 by decide),_,by assumption,rfl,rfl⟩)|(obtain rfl:v9=4:=(by assumption);exact⟨⟨4,0,min v39 v41,max v39 v41,⟨[]⟩,0⟩,I8 (by omega) (by omega) (by omega),fun _=>(show(4:Int)≠7 by decide),_,by assumption,rfl,rfl⟩)|(obtain rfl:v9=5:=(by assumption);exact⟨⟨5,0,v53,v55,⟨[]⟩,0⟩,L8 (by omega) (by omega) (by omega) (by omega),fun _=>(show(5:Int)≠7 by decide),_,by assumption,rfl,rfl⟩)|(obtain rfl:v9=5:=(by assumption);exact⟨⟨5,0,v53,(v53+v64+1440 - 1) % 1440,⟨[]⟩,0⟩,L8 (by omega) (by omega) (by omega) (by omega),fun _=>(show(5:Int)≠7 by decide),_,by assumption,rfl,rfl⟩)|(obtain rfl:v9=6:=(by assumption);exact⟨_,Q9 (by assumption),fun _=>(show(6:Int)≠7 by decide),_,by assumption,rfl,rfl⟩)|(obtain rfl:v9=7:=(by assumption);exact⟨⟨7,0,0,0,⟨[]⟩,v78⟩,M9 (by omega) (by omega),fun h=>(by subst h;simp at hc17),_,by assumption,rfl,rfl⟩)
  ·refine .sr a8 (.p (.D4 (.t a8) (.i a8) (.ag a8 (.nil (.o8 (.t a8) (fun hc26 => ?_) (fun hc26 => ?_))))))
   ·refine .region a8 (.mv a8 (.h (.D3 hG (a4O _ _ _ (by assumption) (by decide)) .z2 (.cons (.t a8) (.cons (.i a8) .nil)) (by rintro _ _ ⟨_,_,_,_,_,rfl⟩;exact⟨_,rfl⟩) fun r29 B29 hr29 => ?_)))
    obtain⟨m29,hm29,d29,hd29,rfl,hB⟩:=hr29
    cases hB
    refine .p (.x4 j3.l1 O2 a8 (.t a8) (.n (.U0 (fun y x => { x with Mask:=y }) a1i (.t a8) (.t a8) .z (fun _ _=>a8) (.nil (.sr a8 (.p (.I4 A7 (.t a8) .z (.n (.C8 A7 (.t a8) (.t a8) .z1 (.nil (.ret ?_)))))))))))
    refine⟨_,.r1 a8 (.cell A7 a8 .z1),?_⟩
    refine⟨_,.cons .z2 (.nil),?_⟩
    first|(exfalso;(try dsimp only at *);omega)|exact⟨⟨4,0,min v39 v41,max v39 v41,⟨[]⟩,0⟩,I8 (by omega) (by omega) (by omega),fun _=>(show(4:Int)≠7 by decide),_,by assumption,rfl,rfl⟩|(obtain rfl:v9=1:=(by assumption);exact⟨_,E4 (Or.inl rfl) (by assumption),fun _=>(show(1:Int)≠7 by decide),_,by assumption,rfl,rfl⟩)|(obtain rfl:v9=2:=(by assumption);exact⟨_,E4 (Or.inr (Or.inl rfl)) (by assumption),fun _=>(show(2:Int)≠7 by decide),_,by assumption,rfl,rfl⟩)|(obtain rfl:v9=3:=(by assumption);exact⟨_,E4 (Or.inr (Or.inr rfl)) (by assumption),fun _=>(show(3:Int)≠7 by decide),_,by assumption,rfl,rfl⟩)|(obtain rfl:v9=4:=(by assumption);exact⟨⟨4,0,min v39 v41,max v39 v41,⟨[]⟩,0⟩,I8 (by omega) (by omega) (by omega),fun _=>(show(4:Int)≠7 by decide),_,by assumption,rfl,rfl⟩)|(obtain rfl:v9=5:=(by assumption);exact⟨⟨5,0,v53,v55,⟨[]⟩,0⟩,L8 (by omega) (by omega) (by omega) (by omega),fun _=>(show(5:Int)≠7 by decide),_,by assumption,rfl,rfl⟩)|(obtain rfl:v9=5:=(by assumption);exact⟨⟨5,0,v53,(v53+v64+1440 - 1) % 1440,⟨[]⟩,0⟩,L8 (by omega) (by omega) (by omega) (by omega),fun _=>(show(5:Int)≠7 by decide),_,by assumption,rfl,rfl⟩)|(obtain rfl:v9=6:=(by assumption);exact⟨_,Q9 (by assumption),fun _=>(show(6:Int)≠7 by decide),_,by assumption,rfl,rfl⟩)|(obtain rfl:v9=7:=(by assumption);exact⟨⟨7,0,0,0,⟨[]⟩,v78⟩,M9 (by omega) (by omega),fun h=>(by subst h;simp at hc17),_,by assumption,rfl,rfl⟩)
   ·refine .sr a8 (.p (.D4 (.t a8) (.i a8) (.ag a8 (.nil (.o8 (.t a8) (fun hc31 => ?_) (fun hc31 => ?_))))))
    ·refine .region a8 (.mv a8 (.h (.D3 hG (a4O _ _ _ (by assumption) (by decide)) .z2 (.cons (.t a8) (.cons (.i a8) .nil)) (by rintro _ _ ⟨_,_,_,_,_,rfl⟩;exact⟨_,rfl⟩) fun r34 B34 hr34 => ?_)))
     obtain⟨m34,hm34,d34,hd34,rfl,hB⟩:=hr34
     cases hB
     refine .p (.x4 j3.l1 O2 a8 (.t a8) (.n (.U0 (fun y x => { x with Mask:=y }) a1i (.t a8) (.t a8) .z (fun _ _=>a8) (.nil (.sr a8 (.p (.I4 A7 (.t a8) .z (.n (.C8 A7 (.t a8) (.t a8) .z1 (.nil (.ret ?_)))))))))))
     refine⟨_,.r1 a8 (.cell A7 a8 .z1),?_⟩
     refine⟨_,.cons .z2 (.nil),?_⟩
     first|(exfalso;(try dsimp only at *);omega)|exact⟨⟨4,0,min v39 v41,max v39 v41,⟨[]⟩,0⟩,I8 (by omega) (by omega) (by omega),fun _=>(show(4:Int)≠7 by decide),_,by assumption,rfl,rfl⟩|(obtain rfl:v9=1:=(by assumption);exact⟨_,E4 (Or.inl rfl) (by assumption),fun _=>(show(1:Int)≠7 by decide),_,by assumption,rfl,rfl⟩)|(obtain rfl:v9=2:=(by assumption);exact⟨_,E4 (Or.inr (Or.inl rfl)) (by assumption),fun _=>(show(2:Int)≠7 by decide),_,by assumption,rfl,rfl⟩)|(obtain rfl:v9=3:=(by assumption);exact⟨_,E4 (Or.inr (Or.inr rfl)) (by assumption),fun _=>(show(3:Int)≠7 by decide),_,by assumption,rfl,rfl⟩)|(obtain rfl:v9=4:=(by assumption);exact⟨⟨4,0,min v39 v41,max v39 v41,⟨[]⟩,0⟩,I8 (by omega) (by omega) (by omega),fun _=>(show(4:Int)≠7 by decide),_,by assumption,rfl,rfl⟩)|(obtain rfl:v9=5:=(by assumption);exact⟨⟨5,0,v53,v55,⟨[]⟩,0⟩,L8 (by omega) (by omega) (by omega) (by omega),fun _=>(show(5:Int)≠7 by decide),_,by assumption,rfl,rfl⟩)|(obtain rfl:v9=5:=(by assumption);exact⟨⟨5,0,v53,(v53+v64+1440 - 1) % 1440,⟨[]⟩,0⟩,L8 (by omega) (by omega) (by omega) (by omega),fun _=>(show(5:Int)≠7 by decide),_,by assumption,rfl,rfl⟩)|(obtain rfl:v9=6:=(by assumption);exact⟨_,Q9 (by assumption),fun _=>(show(6:Int)≠7 by decide),_,by assumption,rfl,rfl⟩)|(obtain rfl:v9=7:=(by assumption);exact⟨⟨7,0,0,0,⟨[]⟩,v78⟩,M9 (by omega) (by omega),fun h=>(by subst h;simp at hc17),_,by assumption,rfl,rfl⟩)
    ·refine .sr a8 (.p (.D4 (.t a8) (.i a8) (.ag a8 (.nil (.o8 (.t a8) (fun hc36 => ?_) (fun hc36 => ?_))))))
     ·refine .sr a8 (.mv a8 (.h (.D3 hG (a1M _ _ (by assumption)) .z2 (.cons (.t a8) .nil) (by rintro _ _ ⟨_,_,_,_,_,_,rfl⟩;exact⟨_,rfl⟩) fun r39 B39 hr39 => ?_)))
      obtain⟨v39,h039,h139,d39,hd39,rfl,hB⟩:=hr39
      cases hB
      refine .mv a8 (.h (.D3 hG (a1M _ _ (by assumption)) .z2 (.cons (.t a8) .nil) (by rintro _ _ ⟨_,_,_,_,_,_,rfl⟩;exact⟨_,rfl⟩) fun r41 B41 hr41 => ?_))
      obtain⟨v41,h041,h141,d41,hd41,rfl,hB⟩:=hr41
      cases hB
      refine .ag a8 (.ag a8 (.nil (.region a8 (.mv a8 (.mv a8 (.p (.a9Y (.t a8) (.t a8) (.mv a8 (.mv a8 (.p (.b8U (.t a8) (.t a8) (.p (.x4 j3.l2 G0 a8 (.t a8) (.n (.U0 (fun y x => { x with J8:=y }) D0 (.t a8) (.t a8) .z (fun _ _=>a8) (.p (.x4 j3.l3 G1 a8 (.t a8) (.n (.U0 (fun y x => { x with To:=y }) D0 (.t a8) (.t a8) .z (fun _ _=>a8) (.nil (.sr a8 (.p (.I4 A7 (.t a8) .z (.n (.C8 A7 (.t a8) (.t a8) .z1 (.nil (.ret ?_)))))))))))))))))))))))))))
      refine⟨_,.r1 a8 (.cell A7 a8 .z1),?_⟩
      refine⟨_,.cons .z2 (.nil),?_⟩
      first|(exfalso;(try dsimp only at *);omega)|exact⟨⟨4,0,min v39 v41,max v39 v41,⟨[]⟩,0⟩,I8 (by omega) (by omega) (by omega),fun _=>(show(4:Int)≠7 by decide),_,by assumption,rfl,rfl⟩|(obtain rfl:v9=1:=(by assumption);exact⟨_,E4 (Or.inl rfl) (by assumption),fun _=>(show(1:Int)≠7 by decide),_,by assumption,rfl,rfl⟩)|(obtain rfl:v9=2:=(by assumption);exact⟨_,E4 (Or.inr (Or.inl rfl)) (by assumption),fun _=>(show(2:Int)≠7 by decide),_,by assumption,rfl,rfl⟩)|(obtain rfl:v9=3:=(by assumption);exact⟨_,E4 (Or.inr (Or.inr rfl)) (by assumption),fun _=>(show(3:Int)≠7 by decide),_,by assumption,rfl,rfl⟩)|(obtain rfl:v9=4:=(by assumption);exact⟨⟨4,0,min v39 v41,max v39 v41,⟨[]⟩,0⟩,I8 (by omega) (by omega) (by omega),fun _=>(show(4:Int)≠7 by decide),_,by assumption,rfl,rfl⟩)|(obtain rfl:v9=5:=(by assumption);exact⟨⟨5,0,v53,v55,⟨[]⟩,0⟩,L8 (by omega) (by omega) (by omega) (by omega),fun _=>(show(5:Int)≠7 by decide),_,by assumption,rfl,rfl⟩)|(obtain rfl:v9=5:=(by assumption);exact⟨⟨5,0,v53,(v53+v64+1440 - 1) % 1440,⟨[]⟩,0⟩,L8 (by omega) (by omega) (by omega) (by omega),fun _=>(show(5:Int)≠7 by decide),_,by assumption,rfl,rfl⟩)|(obtain rfl:v9=6:=(by assumption);exact⟨_,Q9 (by assumption),fun _=>(show(6:Int)≠7 by decide),_,by assumption,rfl,rfl⟩)|(obtain rfl:v9=7:=(by assumption);exact⟨⟨7,0,0,0,⟨[]⟩,v78⟩,M9 (by omega) (by omega),fun h=>(by subst h;simp at hc17),_,by assumption,rfl,rfl⟩)
     ·refine .sr a8 (.p (.D4 (.t a8) (.i a8) (.ag a8 (.nil (.o8 (.t a8) (fun hc50 => ?_) (fun hc50 => ?_))))))
      ·refine .sr a8 (.mv a8 (.h (.D3 hG (I7 _ _ _ (by first|assumption|exact y8 _) (by omega) (by omega)) .z2 (.cons (.t a8) (.cons (.i a8) .nil)) (by rintro _ _ ⟨_,_,_,_,_,_,rfl⟩;exact⟨_,rfl⟩) fun r53 B53 hr53 => ?_)))
       obtain⟨v53,d53,h053,h153,hd53,rfl,hB⟩:=hr53
       cases hB
       refine .mv a8 (.h (.D3 hG (I7 _ _ _ (by first|assumption|exact y8 _) (by omega) (by omega)) .z2 (.cons (.t a8) (.cons (.i a8) .nil)) (by rintro _ _ ⟨_,_,_,_,_,_,rfl⟩;exact⟨_,rfl⟩) fun r55 B55 hr55 => ?_))
       obtain⟨v55,d55,h055,h155,hd55,rfl,hB⟩:=hr55
       cases hB
       refine .p (.x4 j3.l2 G0 a8 (.t a8) (.n (.U0 (fun y x => { x with J8:=y }) D0 (.t a8) (.t a8) .z (fun _ _=>a8) (.p (.x4 j3.l3 G1 a8 (.t a8) (.n (.U0 (fun y x => { x with To:=y }) D0 (.t a8) (.t a8) .z (fun _ _=>a8) (.nil (.sr a8 (.mv a8 (.h (.D3 hG (I7 _ _ _ (by first|assumption|exact y8 _) (by omega) (by omega)) .z2 (.cons (.t a8) (.cons (.i a8) .nil)) (by rintro _ _ ⟨_,_,_,_,_,_,rfl⟩;exact⟨_,rfl⟩) fun r59 B59 hr59 => ?_))))))))))))
       obtain⟨v59,d59,h059,h159,hd59,rfl,hB⟩:=hr59
       cases hB
       refine .p (.D4 (.t a8) (.i a8) (.nil (.o8 (.t a8) (fun hc60 => ?_) (fun hc60 => ?_))))
       ·refine .E7 [j1,j1,j0] (by kernel_rfl) 9 [[],[(61,0)],[],[(63,2)],[(62,1),(64,3)],[(65,4)],[(66,5)],[(67,6)],[]] [3,4,5,6,7] a8 (by kernel_rfl) a8 (by kernel_rfl) (by decide) ?_
        refine⟨_,fun H=>j6.x4 j3.l2 G0 a8 (.t a8) a8,?_⟩
        refine⟨_,fun H=>j6.K0 (fun x=>x.J8) D0 (.t a8) (y3.app .z) (fun _=>a8) a8,?_⟩
        refine⟨_,fun H=>j6.move (.t a8) a8,?_⟩
        refine .inl (.inl (.inl (.inl (.inl ?_))))
        refine⟨_,fun H=>j6.x4 j3.l3 G1 a8 (.t a8) a8,?_⟩
        refine⟨⟨([],j2 [c8,c8,_]),a8⟩,?_⟩
        refine A6.D3 hG (I7 _ _ _ (by first|assumption|exact y8 _) (by omega) (by omega)) .z2 (.cons (.t rfl) (.cons (.i rfl) .nil)) (by rintro _ _ ⟨_,_,_,_,_,_,rfl⟩;exact⟨_,rfl⟩) fun r64 B64 hr64 => ?_
        obtain⟨v64,d64,h064,h164,hd64,rfl,hB⟩:=hr64
        cases hB
        refine⟨⟨([],j2 [c8,c8,_]),a8⟩,?_⟩
        refine A6.ofP (j6.add (.t rfl) (.t rfl) (by simp;omega) (by simp;omega) ?_)
        refine⟨⟨([],j2 [c8,c8,_]),a8⟩,?_⟩
        refine A6.ofP (j6.add (.t rfl) (.i rfl) (by simp;omega) (by simp;omega) ?_)
        refine⟨⟨([],j2 [c8,c8,_]),a8⟩,?_⟩
        refine A6.ofP (j6.sub (.t rfl) (.i rfl) (by simp;omega) (by simp;omega) ?_)
        refine⟨⟨([],j2 [c8,c8,_]),a8⟩,?_⟩
        refine A6.ofP (j6.rem (.t rfl) (.i rfl) (by simp;omega) (by omega) ?_)
        refine⟨⟨([],j2 [c8,c8,_]),a8⟩,?_⟩
        show F8 _ _ _ _ _ _ ((69,_)::(68,_)::(67,_)::(66,_)::(65,_)::(64,_)::(63,_)::(62,_)::(61,_)::_) _
        refine .n (.U0 (fun y x => { x with To:=y }) D0 (.t a8) (.t a8) .z (fun _ _=>a8) (.nil (.sr a8 (.p (.I4 A7 (.t a8) .z (.n (.C8 A7 (.t a8) (.t a8) .z1 (.nil (.ret ?_)))))))))
        refine⟨_,.r1 a8 (.cell A7 a8 .z1),?_⟩
        refine⟨_,.cons .z2 (.nil),?_⟩
        first|(exfalso;(try dsimp only at *);omega)|exact⟨⟨4,0,min v39 v41,max v39 v41,⟨[]⟩,0⟩,I8 (by omega) (by omega) (by omega),fun _=>(show(4:Int)≠7 by decide),_,by assumption,rfl,rfl⟩|(obtain rfl:v9=1:=(by assumption);exact⟨_,E4 (Or.inl rfl) (by assumption),fun _=>(show(1:Int)≠7 by decide),_,by assumption,rfl,rfl⟩)|(obtain rfl:v9=2:=(by assumption);exact⟨_,E4 (Or.inr (Or.inl rfl)) (by assumption),fun _=>(show(2:Int)≠7 by decide),_,by assumption,rfl,rfl⟩)|(obtain rfl:v9=3:=(by assumption);exact⟨_,E4 (Or.inr (Or.inr rfl)) (by assumption),fun _=>(show(3:Int)≠7 by decide),_,by assumption,rfl,rfl⟩)|(obtain rfl:v9=4:=(by assumption);exact⟨⟨4,0,min v39 v41,max v39 v41,⟨[]⟩,0⟩,I8 (by omega) (by omega) (by omega),fun _=>(show(4:Int)≠7 by decide),_,by assumption,rfl,rfl⟩)|(obtain rfl:v9=5:=(by assumption);exact⟨⟨5,0,v53,v55,⟨[]⟩,0⟩,L8 (by omega) (by omega) (by omega) (by omega),fun _=>(show(5:Int)≠7 by decide),_,by assumption,rfl,rfl⟩)|(obtain rfl:v9=5:=(by assumption);exact⟨⟨5,0,v53,(v53+v64+1440 - 1) % 1440,⟨[]⟩,0⟩,L8 (by omega) (by omega) (by omega) (by omega),fun _=>(show(5:Int)≠7 by decide),_,by assumption,rfl,rfl⟩)|(obtain rfl:v9=6:=(by assumption);exact⟨_,Q9 (by assumption),fun _=>(show(6:Int)≠7 by decide),_,by assumption,rfl,rfl⟩)|(obtain rfl:v9=7:=(by assumption);exact⟨⟨7,0,0,0,⟨[]⟩,v78⟩,M9 (by omega) (by omega),fun h=>(by subst h;simp at hc17),_,by assumption,rfl,rfl⟩)
       ·refine .skip (.sr a8 (.p (.I4 A7 (.t a8) .z (.n (.C8 A7 (.t a8) (.t a8) .z1 (.nil (.ret ?_)))))))
        refine⟨_,.r1 a8 (.cell A7 a8 .z1),?_⟩
        refine⟨_,.cons .z2 (.nil),?_⟩
        first|(exfalso;(try dsimp only at *);omega)|exact⟨⟨4,0,min v39 v41,max v39 v41,⟨[]⟩,0⟩,I8 (by omega) (by omega) (by omega),fun _=>(show(4:Int)≠7 by decide),_,by assumption,rfl,rfl⟩|(obtain rfl:v9=1:=(by assumption);exact⟨_,E4 (Or.inl rfl) (by assumption),fun _=>(show(1:Int)≠7 by decide),_,by assumption,rfl,rfl⟩)|(obtain rfl:v9=2:=(by assumption);exact⟨_,E4 (Or.inr (Or.inl rfl)) (by assumption),fun _=>(show(2:Int)≠7 by decide),_,by assumption,rfl,rfl⟩)|(obtain rfl:v9=3:=(by assumption);exact⟨_,E4 (Or.inr (Or.inr rfl)) (by assumption),fun _=>(show(3:Int)≠7 by decide),_,by assumption,rfl,rfl⟩)|(obtain rfl:v9=4:=(by assumption);exact⟨⟨4,0,min v39 v41,max v39 v41,⟨[]⟩,0⟩,I8 (by omega) (by omega) (by omega),fun _=>(show(4:Int)≠7 by decide),_,by assumption,rfl,rfl⟩)|(obtain rfl:v9=5:=(by assumption);exact⟨⟨5,0,v53,v55,⟨[]⟩,0⟩,L8 (by omega) (by omega) (by omega) (by omega),fun _=>(show(5:Int)≠7 by decide),_,by assumption,rfl,rfl⟩)|(obtain rfl:v9=5:=(by assumption);exact⟨⟨5,0,v53,(v53+v64+1440 - 1) % 1440,⟨[]⟩,0⟩,L8 (by omega) (by omega) (by omega) (by omega),fun _=>(show(5:Int)≠7 by decide),_,by assumption,rfl,rfl⟩)|(obtain rfl:v9=6:=(by assumption);exact⟨_,Q9 (by assumption),fun _=>(show(6:Int)≠7 by decide),_,by assumption,rfl,rfl⟩)|(obtain rfl:v9=7:=(by assumption);exact⟨⟨7,0,0,0,⟨[]⟩,v78⟩,M9 (by omega) (by omega),fun h=>(by subst h;simp at hc17),_,by assumption,rfl,rfl⟩)
      ·refine .sr a8 (.p (.D4 (.t a8) (.i a8) (.ag a8 (.nil (.o8 (.t a8) (fun hc70 => ?_) (fun hc70 => ?_))))))
       ·refine .region a8 (.mv a8 (.h (.D3 hG (b3E _ _ (by assumption)) .z2 (.cons (.t a8) .nil) (by rintro _ _ ⟨_,_,_,_,_,rfl⟩;exact⟨_,rfl⟩) fun r73 B73 hr73 => ?_)))
        obtain⟨s73,hs73,d73,hd73,rfl,hB⟩:=hr73
        cases hB
        refine .p (.x4 j3.l4 T1 a8 (.t a8) (.n (.U0 (fun y x => { x with Name:=y }) ty9 (.t a8) (.t a8) .z (fun _ _=>a8) (.nil (.sr a8 (.p (.I4 A7 (.t a8) .z (.n (.C8 A7 (.t a8) (.t a8) .z1 (.nil (.ret ?_)))))))))))
        refine⟨_,.r1 a8 (.cell A7 a8 .z1),?_⟩
        refine⟨_,.cons .z2 (.nil),?_⟩
        first|(exfalso;(try dsimp only at *);omega)|exact⟨⟨4,0,min v39 v41,max v39 v41,⟨[]⟩,0⟩,I8 (by omega) (by omega) (by omega),fun _=>(show(4:Int)≠7 by decide),_,by assumption,rfl,rfl⟩|(obtain rfl:v9=1:=(by assumption);exact⟨_,E4 (Or.inl rfl) (by assumption),fun _=>(show(1:Int)≠7 by decide),_,by assumption,rfl,rfl⟩)|(obtain rfl:v9=2:=(by assumption);exact⟨_,E4 (Or.inr (Or.inl rfl)) (by assumption),fun _=>(show(2:Int)≠7 by decide),_,by assumption,rfl,rfl⟩)|(obtain rfl:v9=3:=(by assumption);exact⟨_,E4 (Or.inr (Or.inr rfl)) (by assumption),fun _=>(show(3:Int)≠7 by decide),_,by assumption,rfl,rfl⟩)|(obtain rfl:v9=4:=(by assumption);exact⟨⟨4,0,min v39 v41,max v39 v41,⟨[]⟩,0⟩,I8 (by omega) (by omega) (by omega),fun _=>(show(4:Int)≠7 by decide),_,by assumption,rfl,rfl⟩)|(obtain rfl:v9=5:=(by assumption);exact⟨⟨5,0,v53,v55,⟨[]⟩,0⟩,L8 (by omega) (by omega) (by omega) (by omega),fun _=>(show(5:Int)≠7 by decide),_,by assumption,rfl,rfl⟩)|(obtain rfl:v9=5:=(by assumption);exact⟨⟨5,0,v53,(v53+v64+1440 - 1) % 1440,⟨[]⟩,0⟩,L8 (by omega) (by omega) (by omega) (by omega),fun _=>(show(5:Int)≠7 by decide),_,by assumption,rfl,rfl⟩)|(obtain rfl:v9=6:=(by assumption);exact⟨_,Q9 (by assumption),fun _=>(show(6:Int)≠7 by decide),_,by assumption,rfl,rfl⟩)|(obtain rfl:v9=7:=(by assumption);exact⟨⟨7,0,0,0,⟨[]⟩,v78⟩,M9 (by omega) (by omega),fun h=>(by subst h;simp at hc17),_,by assumption,rfl,rfl⟩)
       ·refine .sr a8 (.p (.D4 (.t a8) (.i a8) (.ag a8 (.nil (.o8 (.t a8) (fun hc75 => ?_) (fun hc75 => ?_))))))
        ·refine .region a8 (.mv a8 (.h (.D3 hG (c1j _ _ _ (by assumption) (by decide) (by decide)) .z2 (.cons (.t a8) (.cons (.i a8) .nil)) (by rintro _ _ ⟨_,_,_,_,_,_,rfl⟩;exact⟨_,rfl⟩) fun r78 B78 hr78 => ?_)))
         obtain⟨v78,h078,h178,d78,hd78,rfl,hB⟩:=hr78
         cases hB
         refine .p (.x4 j3.l5 Q3 a8 (.t a8) (.n (.U0 (fun y x => { x with Number:=y }) D0 (.t a8) (.t a8) .z (fun _ _=>a8) (.nil (.sr a8 (.p (.I4 A7 (.t a8) .z (.n (.C8 A7 (.t a8) (.t a8) .z1 (.nil (.ret ?_)))))))))))
         refine⟨_,.r1 a8 (.cell A7 a8 .z1),?_⟩
         refine⟨_,.cons .z2 (.nil),?_⟩
         first|(exfalso;(try dsimp only at *);omega)|exact⟨⟨4,0,min v39 v41,max v39 v41,⟨[]⟩,0⟩,I8 (by omega) (by omega) (by omega),fun _=>(show(4:Int)≠7 by decide),_,by assumption,rfl,rfl⟩|(obtain rfl:v9=1:=(by assumption);exact⟨_,E4 (Or.inl rfl) (by assumption),fun _=>(show(1:Int)≠7 by decide),_,by assumption,rfl,rfl⟩)|(obtain rfl:v9=2:=(by assumption);exact⟨_,E4 (Or.inr (Or.inl rfl)) (by assumption),fun _=>(show(2:Int)≠7 by decide),_,by assumption,rfl,rfl⟩)|(obtain rfl:v9=3:=(by assumption);exact⟨_,E4 (Or.inr (Or.inr rfl)) (by assumption),fun _=>(show(3:Int)≠7 by decide),_,by assumption,rfl,rfl⟩)|(obtain rfl:v9=4:=(by assumption);exact⟨⟨4,0,min v39 v41,max v39 v41,⟨[]⟩,0⟩,I8 (by omega) (by omega) (by omega),fun _=>(show(4:Int)≠7 by decide),_,by assumption,rfl,rfl⟩)|(obtain rfl:v9=5:=(by assumption);exact⟨⟨5,0,v53,v55,⟨[]⟩,0⟩,L8 (by omega) (by omega) (by omega) (by omega),fun _=>(show(5:Int)≠7 by decide),_,by assumption,rfl,rfl⟩)|(obtain rfl:v9=5:=(by assumption);exact⟨⟨5,0,v53,(v53+v64+1440 - 1) % 1440,⟨[]⟩,0⟩,L8 (by omega) (by omega) (by omega) (by omega),fun _=>(show(5:Int)≠7 by decide),_,by assumption,rfl,rfl⟩)|(obtain rfl:v9=6:=(by assumption);exact⟨_,Q9 (by assumption),fun _=>(show(6:Int)≠7 by decide),_,by assumption,rfl,rfl⟩)|(obtain rfl:v9=7:=(by assumption);exact⟨⟨7,0,0,0,⟨[]⟩,v78⟩,M9 (by omega) (by omega),fun h=>(by subst h;simp at hc17),_,by assumption,rfl,rfl⟩)
        ·refine .skip (.sr a8 (.p (.I4 A7 (.t a8) .z (.n (.C8 A7 (.t a8) (.t a8) .z1 (.nil (.ret ?_)))))))
         refine⟨_,.r1 a8 (.cell A7 a8 .z1),?_⟩
         refine⟨_,.cons .z2 (.nil),?_⟩
         first|(exfalso;(try dsimp only at *);omega)|exact⟨⟨4,0,min v39 v41,max v39 v41,⟨[]⟩,0⟩,I8 (by omega) (by omega) (by omega),fun _=>(show(4:Int)≠7 by decide),_,by assumption,rfl,rfl⟩|(obtain rfl:v9=1:=(by assumption);exact⟨_,E4 (Or.inl rfl) (by assumption),fun _=>(show(1:Int)≠7 by decide),_,by assumption,rfl,rfl⟩)|(obtain rfl:v9=2:=(by assumption);exact⟨_,E4 (Or.inr (Or.inl rfl)) (by assumption),fun _=>(show(2:Int)≠7 by decide),_,by assumption,rfl,rfl⟩)|(obtain rfl:v9=3:=(by assumption);exact⟨_,E4 (Or.inr (Or.inr rfl)) (by assumption),fun _=>(show(3:Int)≠7 by decide),_,by assumption,rfl,rfl⟩)|(obtain rfl:v9=4:=(by assumption);exact⟨⟨4,0,min v39 v41,max v39 v41,⟨[]⟩,0⟩,I8 (by omega) (by omega) (by omega),fun _=>(show(4:Int)≠7 by decide),_,by assumption,rfl,rfl⟩)|(obtain rfl:v9=5:=(by assumption);exact⟨⟨5,0,v53,v55,⟨[]⟩,0⟩,L8 (by omega) (by omega) (by omega) (by omega),fun _=>(show(5:Int)≠7 by decide),_,by assumption,rfl,rfl⟩)|(obtain rfl:v9=5:=(by assumption);exact⟨⟨5,0,v53,(v53+v64+1440 - 1) % 1440,⟨[]⟩,0⟩,L8 (by omega) (by omega) (by omega) (by omega),fun _=>(show(5:Int)≠7 by decide),_,by assumption,rfl,rfl⟩)|(obtain rfl:v9=6:=(by assumption);exact⟨_,Q9 (by assumption),fun _=>(show(6:Int)≠7 by decide),_,by assumption,rfl,rfl⟩)|(obtain rfl:v9=7:=(by assumption);exact⟨⟨7,0,0,0,⟨[]⟩,v78⟩,M9 (by omega) (by omega),fun h=>(by subst h;simp at hc17),_,by assumption,rfl,rfl⟩)
abbrev Pass:=x6
abbrev Dis:=p8
abbrev c1m:=C0
abbrev b0I:=u3
def a0S {α β:Type} [Inhabited β] (r:C7×α×Int) (f:C7→α→C7×β×Int):C7×β×Int:=if r.2.2=0 then f r.1 r.2.1 else (default,default,r.2.2)
theorem F7 {α β:Type} [Inhabited β] {r:C7×α×Int} (h:r.2.2=0) (f:C7→α→C7×β×Int):a0S r f=f r.1 r.2.1:=if_pos h
theorem Q4 {α β:Type} [Inhabited β] {r:C7×α×Int} (h:¬r.2.2=0) (f:C7→α→C7×β×Int):a0S r f=(default,default,r.2.2):=if_neg h
def a5u (a:C7) (k:Tag) (m:List UInt8):C7×Tag×Int:=a0S (H5 a k m) fun b t=>a0S (H5 b t G2) fun c _=>(c,t,0)
def a7u (a:C7) (root:p6) (n:Int):C7×Pass×Int :=
 if K6 root.Number n=false then (default,default,1) else a0S (a5u a root.Key (W4 n)) fun b t=>(b,⟨root.Number,n,[],t⟩,0)
def a6s (p:Pass) (c:Cav):Bool:=decide (64≤p.l9.length)||(c.M1&&decide (8≤a09 p.l9))
def a4h (a:C7) (p:Pass) (c:Cav):C7×Pass×Int :=
 if H7 c=false then (default,default,5) else if a6s p c then (default,default,2) else
 a0S (a5u a p.Tag (Z6 c)) fun b t=>(b,⟨p.C9,p.y7,p.l9 ++ [c],t⟩,0)
def a0D (t:y9):Bool:=decide (0≤t.a2T)&&decide (t.a2T≤t.a6g)&&decide (t.a6g≤150)
def Z8 (k:Tag) (t:y9):List UInt8:=k.l++K5 t.a2T.toNat++K5 t.a6g.toNat
def a35 (a:C7) (c:b0I) (t:y9):C7×c1m×Int :=
 if (a0D t&&decide (0≤c.E8)&&decide (c.E8≤7))=false then (default,default,1) else
 a0S (Q7 a) fun b k=>a0S (Q8 b c.Key b.F9 (Z8 k t)) fun d x=>(d,⟨c.E8,k,x⟩,0)
def b2b (a:C7) (p:Pass) (b:c1m):C7×Pass×Int :=
 a0S (H5 a p.Tag (D1 b.j8)) fun a t=>a0S (Q8 a t 0 b.Key.l) fun a x=>a4h a p ⟨true,default,b.E8,b.j8,x⟩
def S6 (a:C7) (d:Dis) (p:Pred):C7×Dis×Int :=
 if A5 p=false then (default,default,5) else if p.Kind=7 then (default,default,6) else if 8≤d.l8.length then (default,default,2) else
 a0S (H5 a d.Tag (W5 p)) fun b t=>(b,⟨d.j8,d.l8 ++ [p],t⟩,0)
def a2Y (s:Str):Pred:=⟨6,0,0,0,s,0⟩
def a5V (a:C7) (k:Tag) (t:List UInt8) (s:Str):C7×Dis×Int:=a0S (H5 a k (a0x t)) fun b x=>S6 b ⟨t,[],x⟩ (a2Y s)
def a1d (a:C7) (p:Pass):List Pred→C7×Pass×Int
 | []=>(a,p,0)
 | x::l=>a0S (a4h a p ⟨false,x,0,[],[]⟩) fun b q=>a1d b q l
def a2K (a:C7) (d:Dis) (leaf:Tag) (r:Rq):C7×Bnd×Int :=
 if S9 r=false then (default,default,1) else a0S (H5 a d.Tag (U4 leaf r)) fun b t=>(b,⟨d.j8,d.l8,t⟩,0)
def a2L (leaf:Tag) (r:Rq) (a:C7):List Dis→C7×List Bnd×Int
 | []=>(a,[],0)
 | d::l=>a0S (a2K a d leaf r) fun b x=>a0S (a2L leaf r b l) fun c y=>(c,x::y,0)
def b7O (p:Pass) (l:List Dis) (r:Rq):Y0:=⟨r,p.C9,p.y7,p.l9,default,l.map fun d=>⟨d.j8,d.l8,default⟩⟩
end Go.Proofs.YtmmclghiidoldaaGreatDoor
