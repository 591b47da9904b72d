/- Plain Lean over any program, and walks of this seat's functions: contracts, each proved once (part 5). -/
import Derived.Test.YtmmclghiidoldaaGreatDoorZ4
set_option maxRecDepth 1000000
set_option linter.unusedVariables false
set_option linter.unusedSimpArgs false
namespace Go.Proofs.YtmmclghiidoldaaGreatDoor
open Go.Fl Go.Ab Go.Mac Go.Sha
theorem b4U (b:List UInt8):u1 gl Tryz.prog 188 [.v b] (fun r=>r = .v (decide (1≤b.length)&&decide (b.length≤1024))):=by
 refine u1.intro Tryz.func188 rfl (by kernel_rfl) 11 rfl rfl _ rfl fun C hC hG=>(.sr rfl (.p (.assign .b (.nil (.sr rfl (.mv rfl (.p (.len Tryz.underlying86 (.t rfl) (.p (.geq (.t rfl) (.i rfl) (.mv rfl (.go 6 rfl (.t rfl) (fun hg7 => .move (.t rfl) rfl) (.go 6 rfl (.t rfl) (fun hg8 => .len Tryz.underlying86 (.q rfl hg8) rfl) (.go 6 rfl (.t rfl) (fun hg9 => .leq (.q rfl hg9) (.i rfl) rfl) (.p (.u0 (.t rfl) (fun hp=>(.q rfl hp)) (.ag rfl (.nil (.ret ?_)))))))))))))))))))
 refine⟨_,.r1 a8 (.tmp a8),?_⟩
 refine congrArg AV.v ?_;congr 1<;>(rw [decide_eq_decide];omega)
theorem a8I (c:Cav):u1 gl Tryz.prog 149 [.v c] (fun r=>r = .v (H7 c)):=by
 refine u1.intro Tryz.func149 rfl (by kernel_rfl) 50 rfl rfl _ rfl fun C hC hG=>(.sr rfl (.h (.box (.t rfl) fun b1 => .p (.assign .b (.nil (.seq (.seq (.B0 hC .z (.Q5 1 rfl .z (.region rfl (.p (.m0 m7.l0 (fun x=>x.M1) a3Q rfl (fun _=>rfl) (.t rfl) (.p (.x3 ty4 (.t rfl) (.p (.not (.t rfl) (.nil (.cond (.t rfl) (fun hc5 => ?_) (fun hc5 => ?_)))))))))))))))))))
 ·refine .sr a8 (.p (.m0 m7.l1 (fun x=>x.a1m) a4s a8 (fun _=>a8) (.t a8) (.p (.x3 A7 (.t a8) (.p (.m9 hG (a4L _) (.cons (.t a8) .nil) (.mv a8 (.go 9 a8 (.t a8) (fun hg10 => .m0 m7.l2 (fun x=>x.E8) a4t a8 (fun _=>a8) (.t a8) a8) (.go 9 a8 (.t a8) (fun hg11 => .x3 D0 (.q a8 hg11) a8) (.go 9 a8 (.t a8) (fun hg12 => .D4 (.q a8 hg12) (.i a8) a8) (.p (.u0 (.t a8) (fun hp=>(.q a8 hp)) (.mv a8 (.go 14 a8 (.t a8) (fun hg15 => .m0 m7.l3 (fun x=>x.j8) a3c a8 (fun _=>a8) (.t a8) a8) (.go 14 a8 (.t a8) (fun hg16 => .x3 P1 (.q a8 hg16) a8) (.go 14 a8 (.t a8) (fun hg17 => .len Tryz.underlying86 (.q a8 hg17) a8) (.go 14 a8 (.t a8) (fun hg18 => .D4 (.q a8 hg18) (.i a8) a8) (.p (.u0 (.t a8) (fun hp=>(.q a8 hp)) (.mv a8 (.go 20 a8 (.t a8) (fun hg21 => .m0 m7.l4 (fun x=>x.X3) a4u a8 (fun _=>a8) (.t a8) a8) (.go 20 a8 (.t a8) (fun hg22 => .x3 P1 (.q a8 hg22) a8) (.go 20 a8 (.t a8) (fun hg23 => .len Tryz.underlying86 (.q a8 hg23) a8) ?_)))))))))))))))))))))))
  refine .go 20 a8 (.t a8) (fun hg24 => .D4 (.q a8 hg24) (.i a8) a8) (.p (.u0 (.t a8) (fun hp=>(.q a8 hp)) (.ag a8 (.nil (.ret ?_)))))
  refine⟨_,.r1 a8 (.tmp a8),?_⟩
  refine congrArg AV.v ?_
  unfold H7
  simp_all
 ·refine .skip (.sr a8 (.p (.m0 m7.l1 (fun x=>x.a1m) a4s a8 (fun _=>a8) (.t a8) (.p (.x3 A7 (.t a8) (.p (.bS0 (α:=j3) a8 A7 a7K (.p (.a2a X5 (by decide) a8 (by kernel_rfl) (.t a8) (.t a8) (.mv a8 (.go 30 a8 (.t a8) (fun hg31 => .m0 m7.l2 (fun x=>x.E8) a4t a8 (fun _=>a8) (.t a8) a8) (.go 30 a8 (.t a8) (fun hg32 => .x3 D0 (.q a8 hg32) a8) (.go 30 a8 (.t a8) (fun hg33 => .geq (.q a8 hg33) (.i a8) a8) (.p (.u0 (.t a8) (fun hp=>(.q a8 hp)) (.mv a8 (.go 35 a8 (.t a8) (fun hg36 => .m0 m7.l2 (fun x=>x.E8) a4t a8 (fun _=>a8) (.t a8) a8) (.go 35 a8 (.t a8) (fun hg37 => .x3 D0 (.q a8 hg37) a8) (.go 35 a8 (.t a8) (fun hg38 => .leq (.q a8 hg38) (.i a8) a8) (.p (.u0 (.t a8) (fun hp=>(.q a8 hp)) (.mv a8 (.go 40 a8 (.t a8) (fun hg41 => .m0 m7.l3 (fun x=>x.j8) a3c a8 (fun _=>a8) (.t a8) a8) (.go 40 a8 (.t a8) (fun hg42 => .x3 P1 (.q a8 hg42) a8) (.go 40 a8 (.t a8) (fun hg43 => .m9 hG (b4U _) (.cons (.q a8 hg43) .nil) a8) ?_)))))))))))))))))))))))))
  refine .p (.u0 (.t a8) (fun hp=>(.q a8 hp)) (.mv a8 (.go 45 a8 (.t a8) (fun hg46 => .m0 m7.l4 (fun x=>x.X3) a4u a8 (fun _=>a8) (.t a8) a8) (.go 45 a8 (.t a8) (fun hg47 => .x3 P1 (.q a8 hg47) a8) (.go 45 a8 (.t a8) (fun hg48 => .m9 hG (b4U _) (.cons (.q a8 hg48) .nil) a8) (.p (.u0 (.t a8) (fun hp=>(.q a8 hp)) (.ag a8 (.nil (.ret ?_))))))))))
  refine⟨_,.r1 a8 (.tmp a8),?_⟩
  refine congrArg AV.v ?_
  unfold H7
  simp_all
theorem c2A (n:Nat):decide ((1:Int)≤(n:Int))=decide (1≤n):=decide_eq_decide.2 (by omega)
theorem b4V (n:Nat):decide ((n:Int)≤1024)=decide (n≤1024):=decide_eq_decide.2 (by omega)
theorem a1F {c:Cav} (h:H7 c=true):W3 c=(D7 c,0):=by unfold W3;rw [if_pos h]
theorem a5c {c:Cav} (h:¬H7 c=true):W3 c=([],5):=by unfold W3;rw [if_neg h]
theorem a4P (c:Cav):u1 gl Tryz.prog 166 [.v c] (fun r=>r = .v (H7 c)):=by
 refine u1.intro Tryz.func166 rfl (by kernel_rfl) 64 rfl rfl _ rfl fun C hC hG=>(.sr rfl (.h (.box (.t rfl) fun b1 => .p (.assign .b (.nil (.seq (.seq (.B0 hC .z (.Q5 1 rfl .z (.region rfl (.p (.m0 m7.l0 (fun x=>x.M1) a3Q rfl (fun _=>rfl) (.t rfl) (.p (.x3 ty4 (.t rfl) (.p (.not (.t rfl) (.nil (.cond (.t rfl) (fun hc5 => ?_) (fun hc5 => ?_)))))))))))))))))))
 ·refine .sr a8 (.p (.m0 m7.l1 (fun x=>x.a1m) a4s a8 (fun _=>a8) (.t a8) (.p (.x3 A7 (.t a8) (.p (.m9 hG (a08 _) (.cons (.t a8) .nil) (.mv a8 (.go 9 a8 (.t a8) (fun hg10 => .m0 m7.l2 (fun x=>x.E8) a4t a8 (fun _=>a8) (.t a8) a8) (.go 9 a8 (.t a8) (fun hg11 => .x3 D0 (.q a8 hg11) a8) (.go 9 a8 (.t a8) (fun hg12 => .D4 (.q a8 hg12) (.i a8) a8) (.p (.u0 (.t a8) (fun hp=>(.q a8 hp)) (.mv a8 (.go 14 a8 (.t a8) (fun hg15 => .m0 m7.l3 (fun x=>x.j8) a3c a8 (fun _=>a8) (.t a8) a8) (.go 14 a8 (.t a8) (fun hg16 => .x3 P1 (.q a8 hg16) a8) (.go 14 a8 (.t a8) (fun hg17 => .len Tryz.underlying86 (.q a8 hg17) a8) (.go 14 a8 (.t a8) (fun hg18 => .D4 (.q a8 hg18) (.i a8) a8) (.p (.u0 (.t a8) (fun hp=>(.q a8 hp)) (.mv a8 (.go 20 a8 (.t a8) (fun hg21 => .m0 m7.l4 (fun x=>x.X3) a4u a8 (fun _=>a8) (.t a8) a8) (.go 20 a8 (.t a8) (fun hg22 => .x3 P1 (.q a8 hg22) a8) (.go 20 a8 (.t a8) (fun hg23 => .len Tryz.underlying86 (.q a8 hg23) a8) ?_)))))))))))))))))))))))
  refine .go 20 a8 (.t a8) (fun hg24 => .D4 (.q a8 hg24) (.i a8) a8) (.p (.u0 (.t a8) (fun hp=>(.q a8 hp)) (.ag a8 (.nil (.ret ?_)))))
  refine⟨_,.r1 a8 (.tmp a8),?_⟩
  refine congrArg AV.v ?_
  unfold H7
  (try simp only [c2A,b4V])
  simp_all [Bool.and_assoc]
 ·refine .skip (.sr a8 (.p (.m0 m7.l1 (fun x=>x.a1m) a4s a8 (fun _=>a8) (.t a8) (.p (.x3 A7 (.t a8) (.p (.bS0 (α:=j3) a8 A7 a7K (.p (.a2a X5 (by decide) a8 (by kernel_rfl) (.t a8) (.t a8) (.mv a8 (.go 30 a8 (.t a8) (fun hg31 => .m0 m7.l2 (fun x=>x.E8) a4t a8 (fun _=>a8) (.t a8) a8) (.go 30 a8 (.t a8) (fun hg32 => .x3 D0 (.q a8 hg32) a8) (.go 30 a8 (.t a8) (fun hg33 => .geq (.q a8 hg33) (.i a8) a8) (.p (.u0 (.t a8) (fun hp=>(.q a8 hp)) (.mv a8 (.go 35 a8 (.t a8) (fun hg36 => .m0 m7.l2 (fun x=>x.E8) a4t a8 (fun _=>a8) (.t a8) a8) (.go 35 a8 (.t a8) (fun hg37 => .x3 D0 (.q a8 hg37) a8) (.go 35 a8 (.t a8) (fun hg38 => .leq (.q a8 hg38) (.i a8) a8) (.p (.u0 (.t a8) (fun hp=>(.q a8 hp)) (.mv a8 (.go 40 a8 (.t a8) (fun hg41 => .m0 m7.l3 (fun x=>x.j8) a3c a8 (fun _=>a8) (.t a8) a8) (.go 40 a8 (.t a8) (fun hg42 => .x3 P1 (.q a8 hg42) a8) (.go 40 a8 (.t a8) (fun hg43 => .len Tryz.underlying86 (.q a8 hg43) a8) ?_)))))))))))))))))))))))))
  refine .go 40 a8 (.t a8) (fun hg44 => .geq (.q a8 hg44) (.i a8) a8) (.p (.u0 (.t a8) (fun hp=>(.q a8 hp)) (.mv a8 (.go 46 a8 (.t a8) (fun hg47 => .m0 m7.l3 (fun x=>x.j8) a3c a8 (fun _=>a8) (.t a8) a8) (.go 46 a8 (.t a8) (fun hg48 => .x3 P1 (.q a8 hg48) a8) (.go 46 a8 (.t a8) (fun hg49 => .len Tryz.underlying86 (.q a8 hg49) a8) (.go 46 a8 (.t a8) (fun hg50 => .leq (.q a8 hg50) (.i a8) a8) (.p (.u0 (.t a8) (fun hp=>(.q a8 hp)) (.mv a8 (.go 52 a8 (.t a8) (fun hg53 => .m0 m7.l4 (fun x=>x.X3) a4u a8 (fun _=>a8) (.t a8) a8) (.go 52 a8 (.t a8) (fun hg54 => .x3 P1 (.q a8 hg54) a8) (.go 52 a8 (.t a8) (fun hg55 => .len Tryz.underlying86 (.q a8 hg55) a8) (.go 52 a8 (.t a8) (fun hg56 => .geq (.q a8 hg56) (.i a8) a8) (.p (.u0 (.t a8) (fun hp=>(.q a8 hp)) (.mv a8 (.go 58 a8 (.t a8) (fun hg59 => .m0 m7.l4 (fun x=>x.X3) a4u a8 (fun _=>a8) (.t a8) a8) (.go 58 a8 (.t a8) (fun hg60 => .x3 P1 (.q a8 hg60) a8) (.go 58 a8 (.t a8) (fun hg61 => .len Tryz.underlying86 (.q a8 hg61) a8) ?_))))))))))))))))))))
  refine .go 58 a8 (.t a8) (fun hg62 => .leq (.q a8 hg62) (.i a8) a8) (.p (.u0 (.t a8) (fun hp=>(.q a8 hp)) (.ag a8 (.nil (.ret ?_)))))
  refine⟨_,.r1 a8 (.tmp a8),?_⟩
  refine congrArg AV.v ?_
  unfold H7
  (try simp only [c2A,b4V])
  simp_all [Bool.and_assoc]
theorem b2c (l:List Cav) (hl:l.length≤1000000):u1 gl Tryz.prog 59 [.v l] (fun r=>r = .v (a0C l)):=by
 refine u1.intro Tryz.func59 rfl (by kernel_rfl) 22 rfl rfl _ rfl fun C hC hG=>(.sr rfl (.p (.assign (.K4 (α:=j3)) (.nil (.sr rfl (.p (.assign .raw (.nil (.seq (.seq (.a19 97 Pred (.region rfl (.mv rfl (.p (.len Tryz.underlying24 (.t rfl) (.p (.move (.i rfl) (.nil ?_))))))))))))))))))
 refine .block (.F4 (α:=Nat×Value) [(6,_),(7,_)] (fun x R=>(3,.raw x.2)::(8,.v (x.1:Int))::R) (fun x => [(true,.own 97 x.2 (a0C (l.take x.1)))]) (fun x=>x.1≤l.length) (fun x=>l.length - x.1) ((0,.slice none 0 0)) (.c2 a8 a8 (.nil _)) ?_ (.c2 a8 a8 (.c2 a8 a8 (.nil _))) (a8) fun x hF => ?_)
 ·simp
 obtain⟨k,w⟩:=x
 dsimp only at hF ⊢
 have hfl:(a0C (l.take k)).length≤1000000:=Nat.le_trans (a0P _) (by simp;omega)
 refine .sr a8 (.p (.lss (.t a8) (.t a8) (.nil (.seq (.o8 (.t a8) (fun hc9 => ?_) (fun hc9 => ?_))))))
 ·refine .skip (.seq (.block (.sr a8 (.p (.idx T7 Tryz.underlying24 (.t a8) (.t a8) (by omega) (by omega) (.p (.x3 T7 (.t a8) (.h (.alloc T7 fun b5 => .n (.C8 T7 (.t a8) (.t a8) .z (.nil (.seq (.B0 hC .z (.Q5 5 a8 .z (.drop (.region a8 (.p (.m0 m7.l0 (fun x=>x.M1) a3Q a8 (fun _=>a8) (.t a8) (.p (.x3 ty4 (.t a8) (.p (.not (.t a8) (.nil (.cond (.t a8) (fun hc14 => ?_) (fun hc14 => ?_)))))))))))))))))))))))))
  ·refine .region a8 (.mv a8 (.p (.m0 m7.l1 (fun x=>x.a1m) a4s a8 (fun _=>a8) (.t a8) (.p (.x3 A7 (.t a8) (.h (.buildSlice (α:=j3) A7 Tryz.underlying83 (.cons (.t a8) .nil) a8 (by decide) fun b18 => .h (.append a8v (.inl ⟨_,Tryz.underlying83⟩) a8 .z1 (.own a8 .z) (by simp;omega) (by simp;omega) (fun w19 => .ag a8 ?_) a8))))))))
   refine .drop (.nil (.region a8 (.p (.add (.t a8) (.i a8) (by omega) (by omega) (.mv a8 (.nil ?_))))))
   refine⟨(k+1,_),.c2 rfl rfl (.c2 rfl rfl (.nil _)),congrArg (fun q => [(true,E9.own _ _ q)]) (by dsimp only;rw [a2j l k (by omega)];simp_all),?_,by dsimp only;omega⟩
   dsimp only;omega
  ·refine .skip (.region a8 (.p (.add (.t a8) (.i a8) (by omega) (by omega) (.mv a8 (.nil ?_)))))
   refine⟨(k+1,_),.c2 rfl rfl (.c2 rfl rfl (.nil _)),congrArg (fun q => [(true,E9.own _ _ q)]) (by dsimp only;rw [a2j l k (by omega)];simp_all),?_,by dsimp only;omega⟩
   dsimp only;omega
 ·refine .exit (.seq (.y0 hC .z (.as 3 a8 .z (.region a8 (.mv a8 (.ag a8 (.nil (.ret ?_))))))))
  refine⟨_,.r1 a8 (.tmp a8),?_⟩
  refine congrArg AV.v ?_
  rw [List.take_of_length_le (by omega)]
theorem b5V (l:List Cav) (hl:l.length≤1000000):u1 gl Tryz.prog 26 [.v l] (fun r=>r = .v (a0C l)):=by
 refine u1.intro Tryz.func26 rfl (by kernel_rfl) 26 rfl rfl _ rfl fun C hC hG=>(.sr rfl (.p (.assign (.K4 (α:=j3)) (.nil (.sr rfl (.p (.assign .raw (.nil (.seq (.seq (.a19 97 Pred (.region rfl (.p (.assign (.i rfl) (.nil ?_)))))))))))))))
 refine .block (.F4 (α:=Nat×Value) [(0,_)] (fun x R=>(3,.raw x.2)::(4,.v (x.1:Int))::R) (fun x => [(true,.own 97 x.2 (a0C (l.take x.1)))]) (fun x=>x.1≤l.length) (fun x=>l.length - x.1) ((0,.slice none 0 0)) (.cons a8 (.nil _)) ?_ (.c2 a8 a8 (.cons a8 (.nil _))) (a8) fun x hF => ?_)
 ·simp
 obtain⟨k,w⟩:=x
 dsimp only at hF ⊢
 have hfl:(a0C (l.take k)).length≤1000000:=Nat.le_trans (a0P _) (by simp;omega)
 refine .seq (.sr a8 (.mv a8 (.mv a8 (.p (.len Tryz.underlying24 (.t a8) (.p (.lss (.t a8) (.t a8) (.nil (.o8 (.t a8) (fun hc8 => ?_) (fun hc8 => ?_))))))))))
 ·refine .skip (.seq (.block (.sr a8 (.mv a8 (.mv a8 (.p (.idx T7 Tryz.underlying24 (.t a8) (.t a8) (by omega) (by omega) (.p (.m0 m7.l0 (fun x=>x.M1) a3Q a8 (fun _=>a8) (.t a8) (.p (.x3 ty4 (.t a8) (.p (.not (.t a8) (.nil (.cond (.t a8) (fun hc16 => ?_) (fun hc16 => ?_))))))))))))))))
  ·refine .region a8 (.mv a8 (.mv a8 (.mv a8 (.p (.idx T7 Tryz.underlying24 (.t a8) (.t a8) (by omega) (by omega) (.p (.m0 m7.l1 (fun x=>x.a1m) a4s a8 (fun _=>a8) (.t a8) (.p (.x3 A7 (.t a8) (.h (.buildSlice (α:=j3) A7 Tryz.underlying83 (.cons (.t a8) .nil) a8 (by decide) fun b23 => .h (.append a8v (.inl ⟨_,Tryz.underlying83⟩) a8 .z1 (.own a8 .z) (by simp;omega) (by simp;omega) (fun w24 => .ag a8 ?_) a8))))))))))))
   refine .drop (.nil (.region a8 (.mv a8 (.p (.add (.t a8) (.i a8) (by omega) (by omega) (.ag a8 (.nil ?_)))))))
   refine⟨(k+1,_),.c2 rfl rfl (.cons rfl (.nil _)),congrArg (fun q => [(true,E9.own _ _ q)]) (by dsimp only;rw [a2j l k (by omega)];simp_all),?_,by dsimp only;omega⟩
   dsimp only;omega
  ·refine .skip (.region a8 (.mv a8 (.p (.add (.t a8) (.i a8) (by omega) (by omega) (.ag a8 (.nil ?_))))))
   refine⟨(k+1,_),.c2 rfl rfl (.cons rfl (.nil _)),congrArg (fun q => [(true,E9.own _ _ q)]) (by dsimp only;rw [a2j l k (by omega)];simp_all),?_,by dsimp only;omega⟩
   dsimp only;omega
 ·refine .exit (.seq (.y0 hC .z (.as 3 a8 .z (.region a8 (.mv a8 (.ag a8 (.nil (.ret ?_))))))))
  refine⟨_,.r1 a8 (.tmp a8),?_⟩
  refine congrArg AV.v ?_
  rw [List.take_of_length_le (by omega)]
theorem a9M (l:List Cav) (hl:l.length≤1000000):u1 gl Tryz.prog 105 [.v l] (fun r=>r = .v (a09 l)):=by
 refine u1.intro Tryz.func105 rfl (by kernel_rfl) 9 rfl rfl _ rfl fun C hC hG=>(.sr rfl (.p (.assign (.i rfl) (.nil (.seq ?_)))))
 have hfl:=a0P l
 refine .region a8 (.mv a8 (.p (.len Tryz.underlying24 (.t a8) (.mv a8 (.p (.m9 hG (b5V _ hl) (.cons (.t a8) .nil) (.p (.len Tryz.underlying83 (.t a8) (.p (.sub (.t a8) (.t a8) (by omega) (by omega) (.ag a8 (.nil (.ret ?_)))))))))))))
 refine⟨_,.r1 a8 (.tmp a8),?_⟩
 rfl
theorem b2d (l:List Cav):u1 gl Tryz.prog 106 [.v l] (fun r=>r = .v (l.all H7)):=by
 refine u1.intro Tryz.func106 rfl (by kernel_rfl) 16 rfl rfl _ rfl fun C hC hG=>(.sr rfl (.p (.assign .b (.nil (.seq (.seq (.Y4 0 rfl fun hl=>(.region rfl (.p (.assign (.i rfl) (.nil (.block (.F4 (α:=Nat) [(0,_)] (fun k R=>(3,.v (k:Int))::R) (fun k => []) (fun k=>k≤l.length∧(l.take k).all H7=true) (fun k=>l.length - k) (0) (.cons rfl (.nil _)) ?_ (.c2 rfl rfl (.nil _)) (rfl) fun k hF => ?_)))))))))))))
 ·simp
 obtain⟨h1,h2⟩:=hF
 refine .seq (.sr a8 (.mv a8 (.mv a8 (.p (.len Tryz.underlying24 (.t a8) (.p (.lss (.t a8) (.t a8) (.nil (.o8 (.t a8) (fun hc7 => ?_) (fun hc7 => ?_))))))))))
 ·refine .skip (.seq (.block (.sr a8 (.mv a8 (.mv a8 (.p (.idx T7 Tryz.underlying24 (.t a8) (.t a8) (by omega) (by omega) (.p (.x3 T7 (.t a8) (.p (.m9 hG (a4P _) (.cons (.t a8) .nil) (.p (.not (.t a8) (.nil (.cond (.t a8) (fun hc15 => ?_) (fun hc15 => ?_))))))))))))))))
  ·refine .sr a8 (.p (.assign .b (.nil (.ret ?_))))
   refine⟨_,.r1 a8 (.tmp a8),?_⟩
   refine congrArg AV.v (Eq.symm ?_)
   rw [b0r H7 l k (by omega)]
   simp_all
  ·refine .skip (.region a8 (.mv a8 (.p (.add (.t a8) (.i a8) (by omega) (by omega) (.ag a8 (.nil ?_))))))
   refine⟨k+1,.c2 rfl rfl (.nil _),rfl,?_,by omega⟩
   refine⟨by omega,?_⟩;rw [all_succ _ _ _ (by omega),h2];simpa using hc15
 ·refine .exit (.sr a8 (.p (.assign .b (.nil (.ret ?_)))))
  refine⟨_,.r1 a8 (.tmp a8),?_⟩
  refine congrArg AV.v (Eq.symm ?_)
  rw [List.take_of_length_le (by omega)] at h2
  exact h2
theorem b2e (c:Cav):u1 gl Tryz.prog 91 [.v c] (fun r=>r = .t2 (.v (W3 c).1) (.v (W3 c).2)):=by
 refine u1.intro Tryz.func91 rfl (by kernel_rfl) 52 rfl rfl _ rfl fun C hC hG=>(.sr rfl (.h (.box (.t rfl) fun b1 => .p (.assign (.K4 (α:=UInt8)) (.p (.assign (.i rfl) (.nil (.seq (.seq (.B0 hC .z (.Q5 1 rfl .z (.region rfl (.p (.x3 T7 (.t rfl) (.p (.m9 hG (a8I _) (.cons (.t rfl) .nil) (.p (.not (.t rfl) (.nil (.cond (.t rfl) (fun hc12 => ?_) (fun hc12 => ?_)))))))))))))))))))))
 ·refine .sr a8 (.p (.assign (.K4 (α:=UInt8)) (.p (.assign (.i a8) (.nil (.ret ?_))))))
  refine⟨_,.r2 a8 (.tmp a8) (.tmp a8),?_⟩
  rw [a5c (by simpa using hc12)]
 ·refine .skip (.seq (.seq ?_))
  have hco:H7 c=true:=by simpa using hc12
  refine .region a8 (.p (.m0 m7.l0 (fun x=>x.M1) a3Q a8 (fun _=>a8) (.t a8) (.p (.x3 ty4 (.t a8) (.p (.not (.t a8) (.nil (.cond (.t a8) (fun hc15 => ?_) (fun hc15 => ?_)))))))))
  ·refine .sr a8 (.p (.m0 m7.l1 (fun x=>x.a1m) a4s a8 (fun _=>a8) (.t a8) (.p (.x3 A7 (.t a8) (.p (.m9 hG (a60 _) (.cons (.t a8) .nil) (.mv a8 (.p (.E5 (.t a8) (.p (.E6 (.t a8) (.ag a8 (.ag a8 (.nil (.seq ?_)))))))))))))))
   have h15:c.M1=false:=by simpa using hc15
   obtain⟨hpo,-⟩:=a0O hco h15
   have hpl:=I5 (L6 hpo)
   rw [x8 hpo]
   refine .region a8 (.h (.buildSlice (α:=UInt8) U1 Tryz.underlying86 (.cons (.u8 1 a8) .nil) a8 (by decide) fun b22 => .mv a8 (.h (.append F5 (.inl ⟨_,Tryz.underlying86⟩) a8 .z (.v (.t a8)) (by simp;omega) (by simp;omega) (fun w24 => .mv a8 (.ag a8 (.ag a8 ?_))) a8))))
   refine .nil (.y0 hC .z (.as 2 a8 .z (.ret ?_)))
   refine⟨_,.r2 a8 (.tmp a8) (.tmp a8),?_⟩
   rw [a1F hco]
   unfold D7
   rw [h15]
   rfl
  ·refine .skip (.seq ?_)
   obtain⟨g1,g2,g3,g4,g5,g6,g7⟩:=a0N hco (by simpa using hc15)
   have hn:=A8 (n:=c.E8.toNat) (by omega)
   refine .region a8 (.h (.buildSlice (α:=UInt8) U1 Tryz.underlying86 (.cons (.u8 2 a8) .nil) a8 (by decide) fun b27=>(.y0 hC .z (.as 27 a8 .z (.p (.m0 m7.l2 (fun x=>x.E8) a4t a8 (fun _=>a8) (.t a8) (.p (.x3 D0 (.t a8) (.p (.m9 hG ((a1y _ _ (by simp) (by omega) (by omega)).b7A) (.cons (.t a8) (.cons (.t a8) .nil)) (.mv a8 (.p (.E5 (.t a8) (.p (.E6 (.t a8) (.ag a8 (.ag a8 (.nil (.seq (.sr a8 (.p (.m0 m7.l3 (fun x=>x.j8) a3c a8 (fun _=>a8) (.t a8) (.p (.x3 P1 (.t a8) (.p (.m0 m7.l4 (fun x=>x.X3) a4u a8 (fun _=>a8) (.t a8) (.p (.x3 P1 (.t a8) (.p (.Q2 (⟨[_,_],a8⟩:(J7 2 (List UInt8))) c19 c0n (.cons (m5.idx 0 (by decide)) _ a8 (.t a8) (.cons (m5.idx 1 (by decide)) _ a8 (.t a8) .nil)) a8 (.p (.move (.i a8) (.nil (.block (.F4 (α:=Nat×List UInt8) [(37,_)] (fun x R=>(6,.v x.2)::(7,.v (0:Int))::(38,.v (x.1:Int))::R) (Function.const _ _) (fun x=>x.1≤2∧x.2 = [2]++K5 c.E8.toNat++S5 a0n ([c.j8,c.X3].take x.1)) (fun x=>2 - x.1) ((0,[2]++K5 c.E8.toNat)) (.cons a8 (.nil _)) ?_ (.c2 a8 a8 (.c2 a8 a8 (.nil _))) (a8) fun x hF => ?_)))))))))))))))))))))))))))))))))))
   ·exact⟨Nat.zero_le _,by simp [S5]⟩
   obtain⟨k,y⟩:=x
   obtain⟨h1,h2⟩:=hF
   dsimp only at h1 h2 ⊢
   have hy:y.length≤3000:=(by have h5:=a1C g5;have h7:=a1C g7;have h8:k=0∨k=1∨k=2:=(by omega);rw [h2];rcases h8 with rfl|rfl|rfl<;>simp [S5]<;>omega)
   have hxk:∀ (h:k < [c.j8,c.X3].length),([c.j8,c.X3][k]).length≤1024:=(by intro h;have h8:k=0∨k=1:=(by simp at h;omega);rcases h8 with rfl|rfl;exact g5;exact g7)
   refine .sr a8 (.p (.lss (.t a8) (.i a8) (.nil (.seq (.o8 (.t a8) (fun hc39 => ?_) (fun hc39 => ?_))))))
   ·refine .skip (.seq (.block (.sr a8 (.p (.ix c0n a8 (.t a8) (.t a8) (by omega) (by omega) (.ag a8 (.nil (.sr a8 (.mv a8 (.p (.D4 (.t a8) (.i a8) (.nil (.o8 (.t a8) (fun hc42 => ?_) (fun hc42=>(by exfalso;exact hc42 rfl)))))))))))))))
    refine .region a8 (.mv a8 (.mv a8 (.p (.m9 hG (b0G _ _ (by omega) (hxk (by simp;omega))) (.cons (.t a8) (.cons (.t a8) .nil)) (.mv a8 (.p (.E5 (.t a8) (.p (.E6 (.t a8) (.ag a8 (.ag a8 (.nil (.region a8 (.p (.add (.t a8) (.i a8) (by omega) (by omega) (.mv a8 (.nil ?_)))))))))))))))))
    refine⟨(k+1,_),.c2 rfl rfl (.c2 rfl rfl (.nil _)),rfl,?_,by dsimp only;omega⟩
    refine⟨by omega,?_⟩;rw [a1B a0n _ k (by simp;omega),←List.append_assoc,←h2];simp [a0n]
   ·refine .exit (.seq ?_)
    skip
    refine .region a8 (.mv a8 (.mv a8 (.ag a8 (.ag a8 (.nil (.ret ?_))))))
    refine⟨_,.r2 a8 (.tmp a8) (.tmp a8),?_⟩
    obtain rfl:k=2:=(by omega)
    rw [a1F hco]
    unfold D7
    rw [if_pos (by simpa using hc15),h2]
    simp [S5,a0n]
theorem a9N (c:Cav):u1 gl Tryz.prog 167 [.v c] (fun r=>r = .t2 (.v (W3 c).1) (.v (W3 c).2)):=by
 refine u1.intro Tryz.func167 rfl (by kernel_rfl) 34 rfl rfl _ rfl fun C hC hG=>(.sr rfl (.h (.box (.t rfl) fun b1 => .p (.assign (.K4 (α:=UInt8)) (.p (.assign (.i rfl) (.nil (.seq (.seq (.B0 hC .z (.Q5 1 rfl .z (.region rfl (.p (.x3 T7 (.t rfl) (.p (.m9 hG (a4P _) (.cons (.t rfl) .nil) (.p (.not (.t rfl) (.nil (.cond (.t rfl) (fun hc8 => ?_) (fun hc8 => ?_)))))))))))))))))))))
 ·refine .sr a8 (.p (.assign (.K4 (α:=UInt8)) (.p (.assign (.i a8) (.nil (.ret ?_))))))
  refine⟨_,.r2 a8 (.tmp a8) (.tmp a8),?_⟩
  rw [a5c (by simpa using hc8)]
 ·refine .skip (.seq (.seq ?_))
  have hco:H7 c=true:=by simpa using hc8
  refine .region a8 (.p (.m0 m7.l0 (fun x=>x.M1) a3Q a8 (fun _=>a8) (.t a8) (.p (.x3 ty4 (.t a8) (.p (.not (.t a8) (.nil (.cond (.t a8) (fun hc11 => ?_) (fun hc11 => ?_)))))))))
  ·refine .sr a8 (.p (.m0 m7.l1 (fun x=>x.a1m) a4s a8 (fun _=>a8) (.t a8) (.p (.x3 A7 (.t a8) (.p (.m9 hG (a5Q _) (.cons (.t a8) .nil) (.mv a8 (.p (.E5 (.t a8) (.p (.E6 (.t a8) (.ag a8 (.ag a8 (.nil (.seq ?_)))))))))))))))
   have h11:c.M1=false:=by simpa using hc11
   obtain⟨hpo,-⟩:=a0O hco h11
   have hpl:=I5 (L6 hpo)
   rw [x8 hpo]
   refine .region a8 (.h (.buildSlice (α:=UInt8) U1 Tryz.underlying86 (.cons (.u8 1 a8) .nil) a8 (by decide) fun b18 => .mv a8 (.h (.append F5 (.inl ⟨_,Tryz.underlying86⟩) a8 .z (.v (.t a8)) (by simp;omega) (by simp;omega) (fun w20 => .ag a8 (.p (.assign (.i a8) ?_))) a8))))
   refine .nil (.y0 hC .z (.as 2 a8 .z (.ret ?_)))
   refine⟨_,.r2 a8 (.tmp a8) (.tmp a8),?_⟩
   rw [a1F hco]
   unfold D7
   rw [h11]
   rfl
  ·refine .skip (.seq ?_)
   obtain⟨g1,g2,g3,g4,g5,g6,g7⟩:=a0N hco (by simpa using hc11)
   have hn:=A8 (n:=c.E8.toNat) (by omega)
   have hn2:=A8 (n:=c.j8.length) (by omega)
   have hn3:=A8 (n:=c.X3.length) (by omega)
   refine .a7l (by kernel_rfl) 15 [[],[],[(22,1)],[(23,2)],[(21,0),(24,3)],[],[(26,5)],[(27,6)],[(25,4),(28,7)],[],[(30,9)],[(31,10)],[(29,8),(32,11)],[(33,12)],[]] [0,4,8,12,13] a8 (by kernel_rfl) a8 (by kernel_rfl) (by decide) (.inl ?_)
   refine⟨_,fun H=>j6.m0 m7.l2 (fun x=>x.E8) a4t a8 (fun _=>a8) (.t a8) a8,?_⟩
   refine⟨_,fun H=>j6.x3 D0 (.t a8) a8,?_⟩
   refine⟨_,fun H=>j6.m9 hG (F0 _ (by omega) (by omega)) (.cons (.t a8) .nil) a8,?_⟩
   refine .inl ?_
   refine⟨_,fun H=>j6.m0 m7.l3 (fun x=>x.j8) a3c a8 (fun _=>a8) (.t a8) a8,?_⟩
   refine⟨_,fun H=>j6.x3 P1 (.t a8) a8,?_⟩
   refine⟨_,fun H=>j6.m9 hG (a06 _ (by omega)) (.cons (.t a8) .nil) a8,?_⟩
   refine .inl ?_
   refine⟨_,fun H=>j6.m0 m7.l4 (fun x=>x.X3) a4u a8 (fun _=>a8) (.t a8) a8,?_⟩
   refine⟨_,fun H=>j6.x3 P1 (.t a8) a8,?_⟩
   refine⟨_,fun H=>j6.m9 hG (a06 _ (by omega)) (.cons (.t a8) .nil) a8,?_⟩
   refine .inl (.inl ?_)
   refine⟨_,fun H=>j6.assign (.i a8) a8,?_⟩
   refine A6.buildSlice (α:=UInt8) U1 Tryz.underlying86 (.cons (.u8 2 rfl) .nil) rfl (by decide) fun b21 => ?_
   refine A6.append F5 (.inl ⟨_,Tryz.underlying86⟩) rfl .z (.v (.t rfl)) (by simp;omega) (by simp;omega) (fun w25 => ?_) rfl
   refine A6.append F5 (.inl ⟨_,Tryz.underlying86⟩) rfl .z (.v (.t rfl)) (by simp;omega) (by simp;omega) (fun w29 => ?_) rfl
   refine A6.append F5 (.inl ⟨_,Tryz.underlying86⟩) rfl .z (.v (.t rfl)) (by simp;omega) (by simp;omega) (fun w33 => ?_) rfl
   refine A6.ofP (j6.assign (.t rfl) ?_)
   show F8 _ _ _ _ _ _ ((3,_)::(2,_)::(33,_)::(32,_)::(31,_)::(30,_)::(29,_)::(28,_)::(27,_)::(26,_)::(25,_)::(24,_)::(23,_)::(22,_)::(21,_)::_) _
   refine .nil (.y0 hC .z (.as 2 a8 .z (.ret ?_)))
   refine⟨_,.r2 a8 (.tmp a8) (.tmp a8),?_⟩
   rw [a1F hco]
   unfold D7
   rw [if_pos (by simpa using hc11)]
   simp [a0n]
theorem a9O (s:Str) (b:List UInt8) (hs:s.l.length≤1000) (hb:b.length≤1000000):u1 gl Tryz.prog 92 [.v s,.v b] (fun r=>r = .v (s.l++b)):=by
 refine u1.intro Tryz.func92 rfl (by kernel_rfl) 9 rfl rfl _ rfl fun C hC hG=>(.sr rfl (.p (.assign (.K4 (α:=UInt8)) (.nil (.sr rfl (.mv rfl (.h (.W9 Tryz.underlying9 Tryz.underlying86 Tryz.underlying5 (.t rfl) fun w6 => .mv rfl (.h (.append F5 (.inl ⟨_,Tryz.underlying86⟩) rfl .z (.v (.t rfl)) (by omega) (by omega) (fun w8 => .ag rfl ?_) rfl))))))))))
 refine .nil (.y0 hC .z (.as 4 a8 .z (.ret ?_)))
 refine⟨_,.r1 a8 (.tmp a8),?_⟩
 rfl
theorem b7P (e n:Int):u1 gl Tryz.prog 89 [.v e,.v n] (fun r=>r = .v (K6 e n)):=by
 refine u1.intro Tryz.func89 rfl (by kernel_rfl) 19 rfl rfl _ rfl fun C hC hG=>(.sr rfl (.p (.assign .b (.nil (.sr rfl (.mv rfl (.p (.geq (.t rfl) (.i rfl) (.mv rfl (.go 7 rfl (.t rfl) (fun hg8 => .move (.t rfl) rfl) (.go 7 rfl (.t rfl) (fun hg9 => .leq (.q rfl hg9) (.i rfl) rfl) (.p (.u0 (.t rfl) (fun hp=>(.q rfl hp)) (.mv rfl (.go 11 rfl (.t rfl) (fun hg12 => .move (.t rfl) rfl) (.go 11 rfl (.t rfl) (fun hg13 => .geq (.q rfl hg13) (.i rfl) rfl) (.p (.u0 (.t rfl) (fun hp=>(.q rfl hp)) (.mv rfl (.go 15 rfl (.t rfl) (fun hg16 => .move (.t rfl) rfl) ?_))))))))))))))))))))
 refine .go 15 a8 (.t a8) (fun hg17 => .leq (.q a8 hg17) (.i a8) a8) (.p (.u0 (.t a8) (fun hp=>(.q a8 hp)) (.ag a8 (.nil (.ret ?_)))))
 refine⟨_,.r1 a8 (.tmp a8),?_⟩
 rfl
theorem b5W (n:Int) (h0:0≤n) (h1:n≤281474976710656):u1 gl Tryz.prog 90 [.v n] (fun r=>r = .v (W4 n)):=by
 have hlen:=A8 (n:=n.toNat) (by omega)
 refine u1.intro Tryz.func90 rfl (by kernel_rfl) 12 rfl rfl _ rfl fun C hC hG=>(.sr rfl (.p (.assign (.K4 (α:=UInt8)) (.nil (.sr rfl (.mv rfl (.p (.m9 hG ((a1y _ _ (by decide) (by omega) (by omega)).b7A) (.cons .K4 (.cons (.t rfl) .nil)) (.mv rfl (.p (.E5 (.t rfl) (.p (.E6 (.t rfl) (.ag rfl (.ag rfl (.nil (.sr rfl (.mv rfl (.p (.m9 hG (a9O _ _ (by decide) (by simp;omega)) (.cons (.s [109,105,110,116] (by decide) (by decide)) (.cons (.t rfl) .nil)) (.ag rfl (.nil (.ret ?_)))))))))))))))))))))))
 refine⟨_,.r1 a8 (.tmp a8),?_⟩
 rfl
theorem b3F (n:Int) (h0:0≤n) (h1:n≤281474976710656):u1 gl Tryz.prog 71 [.v n] (fun r=>r = .v (W4 n)):=by
 have hlen:=A8 (n:=n.toNat) (by omega)
 refine u1.intro Tryz.func71 rfl (by kernel_rfl) 6 rfl rfl _ rfl fun C hC hG=>(.sr rfl (.p (.assign (.K4 (α:=UInt8)) (.nil (.sr rfl (.mv rfl (.p (.m9 hG (F0 _ (by omega) (by omega)) (.cons (.t rfl) .nil) (.p (.m9 hG (a4G _ _ (by decide) (by omega)) (.cons (.s [109,105,110,116] (by decide) (by decide)) (.cons (.t rfl) .nil)) (.ag rfl (.nil (.ret ?_)))))))))))))
 refine⟨_,.r1 a8 (.tmp a8),?_⟩
 rfl
theorem a36 (c:Cav):(W3 c).1.length≤2100:=by
 unfold W3;split
 ·next h=>exact a2i h
 ·simp
theorem a14 (p:Pred):(U3 p).1.length≤24:=by
 unfold U3;split
 ·next h=>exact I5 (L6 h)
 ·simp
theorem b5X (c:Cav):u1 gl Tryz.prog 110 [.v c] (fun r=>r = .v (Z6 c)):=by
 have hlen:=a36 c
 refine u1.intro Tryz.func110 rfl (by kernel_rfl) 12 rfl rfl _ rfl fun C hC hG=>(.sr rfl (.h (.box (.t rfl) fun b1 => .p (.assign (.K4 (α:=UInt8)) (.nil (.sr rfl (.p (.I4 T7 (.t rfl) .z (.p (.m9 hG (a9N _) (.cons (.t rfl) .nil) (.mv rfl (.p (.E5 (.t rfl) (.p (.E6 (.t rfl) (.ag rfl (.ag rfl (.nil (.sr rfl (.mv rfl (.p (.m9 hG (a4G _ _ (by decide) (by omega)) (.cons (.s [99,97,118,101,97,116] (by decide) (by decide)) (.cons (.t rfl) .nil)) (.ag rfl (.nil (.ret ?_)))))))))))))))))))))))))
 refine⟨_,.r1 a8 (.tmp a8),?_⟩
 rfl
theorem b3G (t:List UInt8) (h:t.length≤1000000):u1 gl Tryz.prog 111 [.v t] (fun r=>r = .v (D1 t)):=by
 refine u1.intro Tryz.func111 rfl (by kernel_rfl) 5 rfl rfl _ rfl fun C hC hG=>(.sr rfl (.p (.assign (.K4 (α:=UInt8)) (.nil (.sr rfl (.mv rfl (.p (.m9 hG (a4G _ _ (by decide) (by omega)) (.cons (.s [115,101,97,108] (by decide) (by decide)) (.cons (.t rfl) .nil)) (.ag rfl (.nil (.ret ?_)))))))))))
 refine⟨_,.r1 a8 (.tmp a8),?_⟩
 rfl
theorem a7v (t:List UInt8) (h:t.length≤1000000):u1 gl Tryz.prog 144 [.v t] (fun r=>r = .v (a0x t)):=by
 refine u1.intro Tryz.func144 rfl (by kernel_rfl) 5 rfl rfl _ rfl fun C hC hG=>(.sr rfl (.p (.assign (.K4 (α:=UInt8)) (.nil (.sr rfl (.mv rfl (.p (.m9 hG (a4G _ _ (by decide) (by omega)) (.cons (.s [103,114,97,110,116] (by decide) (by decide)) (.cons (.t rfl) .nil)) (.ag rfl (.nil (.ret ?_)))))))))))
 refine⟨_,.r1 a8 (.tmp a8),?_⟩
 rfl
theorem a8J (p:Pred):u1 gl Tryz.prog 145 [.v p] (fun r=>r = .v (W5 p)):=by
 have hlen:=a14 p
 refine u1.intro Tryz.func145 rfl (by kernel_rfl) 12 rfl rfl _ rfl fun C hC hG=>(.sr rfl (.h (.box (.t rfl) fun b1 => .p (.assign (.K4 (α:=UInt8)) (.nil (.sr rfl (.p (.I4 A7 (.t rfl) .z (.p (.m9 hG (a5Q _) (.cons (.t rfl) .nil) (.mv rfl (.p (.E5 (.t rfl) (.p (.E6 (.t rfl) (.ag rfl (.ag rfl (.nil (.sr rfl (.mv rfl (.p (.m9 hG (a4G _ _ (by decide) (by omega)) (.cons (.s [99,111,110,100,105,116,105,111,110] (by decide) (by decide)) (.cons (.t rfl) .nil)) (.ag rfl (.nil (.ret ?_)))))))))))))))))))))))))
 refine⟨_,.r1 a8 (.tmp a8),?_⟩
 rfl
theorem b4W (r:Rq):u1 gl Tryz.prog 104 [.v r] (fun x=>x = .v (S9 r)):=by
 refine u1.intro Tryz.func104 rfl (by kernel_rfl) 21 rfl rfl _ rfl fun C hC hG=>(.sr rfl (.h (.box (.t rfl) fun b1 => .p (.assign .b (.nil (.sr rfl (.p (.x4 p7.l0 a4q rfl (.t rfl) (.p (.K0 (fun x=>x.Gate) D0 (.t rfl) .z (fun _=>rfl) (.p (.geq (.t rfl) (.i rfl) (.mv rfl (.go 6 rfl (.t rfl) (fun hg7 => .x4 p7.l0 a4q rfl (.t rfl) rfl) (.go 6 rfl (.t rfl) (fun hg8 => .K0 (fun x=>x.Gate) D0 (.q rfl hg8) .z (fun _=>rfl) rfl) (.go 6 rfl (.t rfl) (fun hg9 => .lss (.q rfl hg9) (.i rfl) rfl) (.p (.u0 (.t rfl) (fun hp=>(.q rfl hp)) (.mv rfl (.go 11 rfl (.t rfl) (fun hg12 => .x4 p7.l1 a3N rfl (.t rfl) rfl) (.go 11 rfl (.t rfl) (fun hg13 => .K0 (fun x=>x.E3) D0 (.q rfl hg13) .z (fun _=>rfl) rfl) (.go 11 rfl (.t rfl) (fun hg14 => .geq (.q rfl hg14) (.i rfl) rfl) ?_))))))))))))))))))))))
 refine .p (.u0 (.t a8) (fun hp=>(.q a8 hp)) (.mv a8 (.go 16 a8 (.t a8) (fun hg17 => .x4 p7.l1 a3N a8 (.t a8) a8) (.go 16 a8 (.t a8) (fun hg18 => .K0 (fun x=>x.E3) D0 (.q a8 hg18) .z (fun _=>a8) a8) (.go 16 a8 (.t a8) (fun hg19 => .leq (.q a8 hg19) (.i a8) a8) (.p (.u0 (.t a8) (fun hp=>(.q a8 hp)) (.ag a8 (.nil (.ret ?_))))))))))
 refine⟨_,.r1 a8 (.tmp a8),?_⟩
 rfl
theorem b3H (r:Rq):u1 gl Tryz.prog 96 [.v r] (fun x=>x = .v (S9 r)):=by
 refine u1.intro Tryz.func96 rfl (by kernel_rfl) 21 rfl rfl _ rfl fun C hC hG=>(.sr rfl (.h (.box (.t rfl) fun b1 => .p (.assign .b (.nil (.sr rfl (.p (.x4 p7.l0 a4q rfl (.t rfl) (.p (.K0 (fun x=>x.Gate) D0 (.t rfl) .z (fun _=>rfl) (.p (.geq (.t rfl) (.i rfl) (.mv rfl (.go 6 rfl (.t rfl) (fun hg7 => .x4 p7.l0 a4q rfl (.t rfl) rfl) (.go 6 rfl (.t rfl) (fun hg8 => .K0 (fun x=>x.Gate) D0 (.q rfl hg8) .z (fun _=>rfl) rfl) (.go 6 rfl (.t rfl) (fun hg9 => .lss (.q rfl hg9) (.i rfl) rfl) (.p (.u0 (.t rfl) (fun hp=>(.q rfl hp)) (.mv rfl (.go 11 rfl (.t rfl) (fun hg12 => .x4 p7.l1 a3N rfl (.t rfl) rfl) (.go 11 rfl (.t rfl) (fun hg13 => .K0 (fun x=>x.E3) D0 (.q rfl hg13) .z (fun _=>rfl) rfl) (.go 11 rfl (.t rfl) (fun hg14 => .geq (.q rfl hg14) (.i rfl) rfl) ?_))))))))))))))))))))))
 refine .p (.u0 (.t a8) (fun hp=>(.q a8 hp)) (.mv a8 (.go 16 a8 (.t a8) (fun hg17 => .x4 p7.l1 a3N a8 (.t a8) a8) (.go 16 a8 (.t a8) (fun hg18 => .K0 (fun x=>x.E3) D0 (.q a8 hg18) .z (fun _=>a8) a8) (.go 16 a8 (.t a8) (fun hg19 => .leq (.q a8 hg19) (.i a8) a8) (.p (.u0 (.t a8) (fun hp=>(.q a8 hp)) (.ag a8 (.nil (.ret ?_))))))))))
 refine⟨_,.r1 a8 (.tmp a8),?_⟩
 rfl
theorem b2f {r:Rq} (h:S9 r=true):(a1a r).length≤14:=by
 obtain⟨g0,g1,n0,n1⟩:=a1b h
 have l1:=A8 (n:=r.Gate.toNat) (by omega)
 have l2:=A8 (n:=r.E3.toNat) (by omega)
 unfold a1a;rw [List.length_append];omega
theorem a4Q (r:Rq) (h:S9 r=true):G5 gl Tryz.prog 135 [.v r] [] (fun x Hs=>∃ u,x = .raw u∧Hs = [.own 5 u (a1a r)]):=by
 obtain⟨g0,g1,n0,n1⟩:=a1b h
 have l1:=A8 (n:=r.Gate.toNat) (by omega)
 have l2:=A8 (n:=r.E3.toNat) (by omega)
 refine G5.T9 Tryz.func135 rfl (by kernel_rfl) 10 rfl rfl _ rfl _ rfl fun C hC hG=>(.sr rfl (.h (.box (.t rfl) fun b1 => .p (.assign (.K4 (α:=UInt8)) (.nil (.seq (.B0 hC .z (.Q5 1 rfl .z (.a7l (by kernel_rfl) 8 [[],[(3,0)],[(4,1)],[],[(6,3)],[(7,4)],[(5,2),(8,5)],[(9,6)]] [2,6,7] rfl (by kernel_rfl) rfl (by kernel_rfl) (by decide) ?_)))))))))
 refine⟨_,fun H=>j6.m0 p7.l0 (fun x=>x.Gate) a4q a8 (fun _=>a8) (.t a8) a8,?_⟩
 refine⟨_,fun H=>j6.x3 D0 (.t a8) a8,?_⟩
 refine .inl ?_
 refine⟨_,fun H=>j6.m0 p7.l1 (fun x=>x.E3) a3N a8 (fun _=>a8) (.t a8) a8,?_⟩
 refine⟨_,fun H=>j6.x3 D0 (.t a8) a8,?_⟩
 refine⟨_,fun H=>j6.m9 hG (F0 _ (by omega) (by omega)) (.cons (.t a8) .nil) a8,?_⟩
 refine .inl (.inl ?_)
 refine A6.a02 hG (a2X _ (by omega) (by omega)) (.cons (.t rfl) .nil) fun r5 Hs5 hr5 => ?_
 obtain⟨u5,rfl,rfl⟩:=hr5
 refine A6.append F5 (.inl ⟨_,Tryz.underlying86⟩) rfl .z (.v (.t rfl)) (by omega) (by omega) (fun w9 => ?_) rfl
 refine A6.ofP (j6.assign (.t rfl) ?_)
 show F8 _ _ _ _ _ _ ((2,_)::(9,_)::(8,_)::(7,_)::(6,_)::(5,_)::(4,_)::(3,_)::_) _
 refine .nil (.ret ?_)
 refine⟨_,.r1 a8 (.tmp a8),?_⟩
 refine⟨_,.cons .z (.nil),?_⟩
 exact⟨_,a8,a8⟩
theorem b3I (leaf:Tag) (r:Rq) (h:S9 r=true):u1 gl Tryz.prog 136 [.v leaf,.v r] (fun x=>x = .v (U4 leaf r)):=by
 obtain⟨g0,g1,n0,n1⟩:=a1b h
 have l1:=A8 (n:=r.Gate.toNat) (by omega)
 have l2:=A8 (n:=r.E3.toNat) (by omega)
 have hlb:=b2f h
 refine u1.intro Tryz.func136 rfl (by kernel_rfl) 12 rfl rfl _ rfl fun C hC hG=>(.sr rfl (.h (.box (.t rfl) fun b2 => .h (.box (.t rfl) fun b3 => .p (.assign (.K4 (α:=UInt8)) (.nil (.seq (.B0 hC .z1 (.Q5 2 rfl .z1 (.B0 hC .z (.Q5 3 rfl .z (.a7l (by kernel_rfl) 8 [[],[],[(5,0),(6,1)],[],[(8,3)],[(7,2),(9,4)],[(10,5)],[(11,6)]] [0,2,5,6,7] rfl (by kernel_rfl) rfl (by kernel_rfl) (by decide) (.inl ?_)))))))))))))
 refine⟨_,fun H=>j6.P5 (by decide) O7 (.t a8) a8,?_⟩
 refine .inl ?_
 refine⟨_,fun H=>j6.x3 a3V (.t a8) a8,?_⟩
 refine⟨_,fun H=>j6.m9 hG ((a4Q _ h).b0C) (.cons (.t a8) .nil) a8,?_⟩
 refine .inl (.inl (.inl ?_))
 refine A6.buildSlice (α:=UInt8) U1 Tryz.underlying86 .nil rfl (by decide) fun b5 => ?_
 refine A6.append F5 (.inl ⟨_,Tryz.underlying86⟩) rfl .z (.v (.t rfl)) (by simp) (by simp) (fun w7 => ?_) rfl
 refine A6.append F5 (.inl ⟨_,Tryz.underlying86⟩) rfl .z (.v (.t rfl)) (by simp;omega) (by simp;omega) (fun w10 => ?_) rfl
 refine A6.c0y hG (a9D _ _ (by decide) (by simp [J7.len];omega)) (.cons (.e (.s [98,105,110,100] (by decide) (by decide))) (.cons (.own rfl .z) .nil)) (by rintro _ _ ⟨u,rfl,rfl⟩;exact .own) fun r11 Hs11 hr11 => ?_
 obtain⟨u11,rfl,rfl⟩:=hr11
 refine A6.ofP (j6.assign (.t rfl) ?_)
 show F8 _ _ _ _ _ _ ((4,_)::(11,_)::(10,_)::(9,_)::(8,_)::(7,_)::(6,_)::(5,_)::_) _
 refine .y0 hC .z (.as 4 a8 .z (.nil (.ret ?_)))
 refine⟨_,.r1 a8 (.tmp a8),?_⟩
 rfl
theorem b7Q (r:Rq) (h:S9 r=true):u1 gl Tryz.prog 73 [.v r] (fun x=>x = .v (a2J r)):=by
 obtain⟨g0,g1,n0,n1⟩:=a1b h
 have l1:=A8 (n:=r.Gate.toNat) (by omega)
 have l2:=A8 (n:=r.E3.toNat) (by omega)
 refine u1.intro Tryz.func73 rfl (by kernel_rfl) 6 rfl rfl _ rfl fun C hC hG=>(.sr rfl (.h (.box (.t rfl) fun b1 => .p (.assign (.K4 (α:=UInt8)) (.nil (.sr rfl (.p (.I4 a3V (.t rfl) .z (.p (.m9 hG ((a4Q _ h).b0C) (.cons (.t rfl) .nil) (.p (.m9 hG (a4G _ _ (by decide) (by simp [a1a];omega)) (.cons (.s [114,101,113,117,101,115,116] (by decide) (by decide)) (.cons (.t rfl) .nil)) (.ag rfl (.nil (.ret ?_)))))))))))))))
 refine⟨_,.r1 a8 (.tmp a8),?_⟩
 rfl
theorem b7R (s:Str) (b:List UInt8) (r:Rq) (hs:s.l.length≤1000) (hb:b.length≤1000) (h:S9 r=true):u1 gl Tryz.prog 97 [.v s,.v b,.v r] (fun x=>x = .v (s.l++(b++a1a r))):=by
 obtain⟨g0,g1,n0,n1⟩:=a1b h
 have l1:=A8 (n:=r.Gate.toNat) (by omega)
 have l2:=A8 (n:=r.E3.toNat) (by omega)
 refine u1.intro Tryz.func97 rfl (by kernel_rfl) 26 rfl rfl _ rfl fun C hC hG=>(.sr rfl (.h (.box (.t rfl) fun b5 => .p (.assign (.K4 (α:=UInt8)) (.nil (.seq (.draw (by kernel_rfl) 11 [[],[],[(10,0),(11,1)],[],[(13,3)],[(12,2),(14,4)],[(15,5)],[(9,6)],[(9,6)],[(16,7)],[(17,8)]] rfl (by kernel_rfl) rfl ?_)))))))
 refine⟨_,j6.move (.t a8) a8,?_⟩
 refine⟨_,j6.move (.t a8) a8,?_⟩
 refine⟨_,j6.m9 hG (a9O _ _ (by omega) (by omega)) (.cons (.t a8) (.cons (.t a8) .nil)) a8,?_⟩
 refine⟨_,j6.x4 p7.l0 a4q a8 (.t a8) a8,?_⟩
 refine⟨_,j6.K0 (fun x=>x.Gate) D0 (.t a8) .z (fun _=>a8) a8,?_⟩
 refine⟨_,j6.m9 hG ((a1y _ _ (by simp;omega) (by omega) (by omega)).b7A) (.cons (.t a8) (.cons (.t a8) .nil)) a8,?_⟩
 refine⟨_,j6.move (.t a8) a8,?_⟩
 refine⟨_,j6.E5 (.t a8) a8,?_⟩
 refine⟨_,j6.E6 (.t a8) a8,?_⟩
 refine⟨_,j6.assign (.t a8) a8,?_⟩
 refine⟨_,j6.assign (.t a8) a8,?_⟩
 show F8 _ _ _ _ _ _ ((8,_)::(7,_)::(17,_)::(16,_)::(9,_)::(15,_)::(14,_)::(13,_)::(12,_)::(11,_)::(10,_)::_) _
 refine .nil (.sr a8 (.mv a8 (.p (.x4 p7.l1 a3N a8 (.t a8) (.p (.K0 (fun x=>x.E3) D0 (.t a8) .z (fun _=>a8) (.p (.m9 hG ((a1y _ _ (by simp;omega) (by omega) (by omega)).b7A) (.cons (.t a8) (.cons (.t a8) .nil)) (.mv a8 (.p (.E5 (.t a8) (.p (.E6 (.t a8) (.ag a8 (.nil (.sr a8 (.mv a8 (.ag a8 (.nil (.ret ?_))))))))))))))))))))
 refine⟨_,.r1 a8 (.tmp a8),?_⟩
 unfold a1a;simp only [List.append_assoc]
theorem b3J {a:C7} {leaf:Tag} {r:Rq} (h:S9 r=false):a0g a leaf r=(default,false):=by unfold a0g;rw [if_neg (by rw [h];decide)]
theorem b3K {a:C7} {leaf:Tag} {r:Rq} (h:S9 r=true):a0g a leaf r=m8 a leaf (a2J r):=by unfold a0g;rw [if_pos h]
theorem b3L {a:C7} {t leaf:Tag} {r:Rq} (h:S9 r=false):U5 a t leaf r=(default,false):=by unfold U5;rw [if_neg (by rw [h];decide)]
theorem b3M {a:C7} {t leaf:Tag} {r:Rq} (h:S9 r=true):U5 a t leaf r=m8 a t (U4 leaf r):=by unfold U5;rw [if_pos h]
theorem b5Y (a:C7) (leaf:Tag) (r:Rq):u1 gl Tryz.prog 39 [.v a,.v leaf,.v r] (fun x=>x = .t2 (.v (a0g a leaf r).1) (.v (a0g a leaf r).2)):=by
 refine u1.intro Tryz.func39 rfl (by kernel_rfl) 19 rfl rfl _ rfl fun C hC hG=>(.sr rfl (.h (.box (.t rfl) fun b3 => .h (.box (.t rfl) fun b4 => .h (.box (.t rfl) fun b5 => .h (.alloc p3 fun b6 => .p (.assign .b (.nil (.seq (.sr rfl (.p (.I4 a3V (.t rfl) .z1 (.p (.m9 hG (b3H _) (.cons (.t rfl) .nil) (.p (.not (.t rfl) (.nil (.cond (.t rfl) (fun hc10 => ?_) (fun hc10 => ?_)))))))))))))))))))
 ·refine .sr a8 (.p (.Q2 (default:(J7 32 UInt8)) p3 O7 .nil a8 (.n (.C8 p3 (.t a8) (.t a8) .z (.p (.assign .b (.nil (.ret ?_))))))))
  refine⟨_,.r2 a8 (.cell p3 a8 .z) (.tmp a8),?_⟩
  rw [b3J (by simpa using hc10)]
 ·refine .skip (.seq ?_)
  have hro:S9 r=true:=by simpa using hc10
  refine .draw (by kernel_rfl) 7 [[],[],[],[(14,2)],[(12,0),(13,1),(15,3)],[(16,4)],[(16,4)]] a8 (by kernel_rfl) a8 ?_
  refine⟨_,j6.I4 u7 (.t a8) .z3 a8,?_⟩
  refine⟨_,j6.I4 p3 (.t a8) .z2 a8,?_⟩
  refine⟨_,j6.I4 a3V (.t a8) .z1 a8,?_⟩
  refine⟨_,j6.m9 hG (b7R _ _ _ (by decide) (by decide) (by simpa using ‹(!S9 r)=false›)) (.cons (.s [114,101,113,117,101,115,116] (by decide) (by decide)) (.cons .K4 (.cons (.t a8) .nil))) a8,?_⟩
  refine⟨_,j6.m9 hG (a1x _ _ _) (.cons (.t a8) (.cons (.t a8) (.cons (.t a8) .nil))) a8,?_⟩
  refine⟨_,j6.E5 (.t a8) a8,?_⟩
  refine⟨_,j6.E6 (.t a8) a8,?_⟩
  show F8 _ _ _ _ _ _ ((18,_)::(17,_)::(16,_)::(15,_)::(14,_)::(13,_)::(12,_)::_) _
  refine .n (.C8 p3 (.t a8) (.t a8) .z (.ag a8 (.nil (.ret ?_))))
  refine⟨_,.r2 a8 (.cell p3 a8 .z) (.tmp a8),?_⟩
  rw [b3K hro]
  rfl
theorem b5Z (a:C7) (t leaf:Tag) (r:Rq):u1 gl Tryz.prog 103 [.v a,.v t,.v leaf,.v r] (fun x=>x = .t2 (.v (U5 a t leaf r).1) (.v (U5 a t leaf r).2)):=by
 refine u1.intro Tryz.func103 rfl (by kernel_rfl) 22 rfl rfl _ rfl fun C hC hG=>(.sr rfl (.h (.box (.t rfl) fun b4 => .h (.box (.t rfl) fun b5 => .h (.box (.t rfl) fun b6 => .h (.box (.t rfl) fun b7 => .h (.alloc p3 fun b8 => .p (.assign .b (.nil (.seq (.sr rfl (.p (.I4 a3V (.t rfl) .z1 (.p (.m9 hG (b3H _) (.cons (.t rfl) .nil) (.p (.not (.t rfl) (.nil (.cond (.t rfl) (fun hc12 => ?_) (fun hc12 => ?_))))))))))))))))))))
 ·refine .sr a8 (.p (.Q2 (default:(J7 32 UInt8)) p3 O7 .nil a8 (.n (.C8 p3 (.t a8) (.t a8) .z (.p (.assign .b (.nil (.ret ?_))))))))
  refine⟨_,.r2 a8 (.cell p3 a8 .z) (.tmp a8),?_⟩
  rw [b3L (by simpa using hc12)]
 ·refine .skip (.seq (.B0 hC .z2 (.Q5 6 a8 .z2 ?_)))
  have hro:S9 r=true:=by simpa using hc12
  refine .draw (by kernel_rfl) 8 [[],[],[],[],[(16,2),(17,3)],[(14,0),(15,1),(18,4)],[(19,5)],[(19,5)]] a8 (by kernel_rfl) a8 ?_
  refine⟨_,j6.I4 u7 (.t a8) .z4 a8,?_⟩
  refine⟨_,j6.I4 p3 (.t a8) .z3 a8,?_⟩
  refine⟨_,j6.P5 (by decide) O7 (.t a8) a8,?_⟩
  refine⟨_,j6.I4 a3V (.t a8) .z1 a8,?_⟩
  refine⟨_,j6.m9 hG (b7R _ _ _ (by decide) (by simp [J7.len]) (by simpa using ‹(!S9 r)=false›)) (.cons (.s [98,105,110,100] (by decide) (by decide)) (.cons (.t a8) (.cons (.t a8) .nil))) a8,?_⟩
  refine⟨_,j6.m9 hG (a1x _ _ _) (.cons (.t a8) (.cons (.t a8) (.cons (.t a8) .nil))) a8,?_⟩
  refine⟨_,j6.E5 (.t a8) a8,?_⟩
  refine⟨_,j6.E6 (.t a8) a8,?_⟩
  show F8 _ _ _ _ _ _ ((21,_)::(20,_)::(19,_)::(18,_)::(17,_)::(16,_)::(15,_)::(14,_)::_) _
  refine .n (.C8 p3 (.t a8) (.t a8) .z (.ag a8 (.nil (.ret ?_))))
  refine⟨_,.r2 a8 (.cell p3 a8 .z) (.tmp a8),?_⟩
  rw [b3M hro]
  rfl
theorem c1G (a:C7) (k:Tag) (t:List UInt8) (l:List Pred) (ht:t.length≤1000000):u1 gl Tryz.prog 114 [.v a,.v k,.v t,.v l] (fun x=>x = .t2 (.v (a1E a k t l).1) (.v (a1E a k t l).2)):=by
 refine u1.intro Tryz.func114 rfl (by kernel_rfl) 60 rfl rfl _ rfl fun C hC hG=>(.sr rfl (.h (.box (.t rfl) fun b4 => .h (.box (.t rfl) fun b5 => .h (.alloc p3 fun b8 => .p (.assign .b (.nil (.seq (.B0 hC .z2 (.Q5 4 rfl .z2 (.B0 hC .z1 (.Q5 5 rfl .z1 (.Y4 3 rfl fun hl3=>(.E7 [j1,j1,j1] (by kernel_rfl) 11 [[],[],[],[(16,2)],[(14,0),(15,1),(17,3)],[(18,4)],[(13,5)],[(13,5)],[],[(10,8),(19,6)],[(20,7)]] [8,9] rfl (by kernel_rfl) rfl (by kernel_rfl) (by decide) ?_))))))))))))))
 refine⟨_,fun H=>j6.x3 u7 (.t a8) a8,?_⟩
 refine⟨_,fun H=>j6.x3 p3 (.t a8) a8,?_⟩
 refine⟨_,fun H=>j6.move (.t a8) a8,?_⟩
 refine⟨_,fun H=>j6.m9 hG (a7v _ ht) (.cons (.t a8) .nil) a8,?_⟩
 refine⟨_,fun H=>j6.m9 hG (b4N _ _ _) (.cons (.t a8) (.cons (.t a8) (.cons (.t a8) .nil))) a8,?_⟩
 refine⟨_,fun H=>j6.move (.t a8) a8,?_⟩
 refine⟨_,fun H=>j6.E5 (.t a8) a8,?_⟩
 refine⟨_,fun H=>j6.E6 (.t a8) a8,?_⟩
 refine .inl (.inl ?_)
 refine⟨_,fun H=>j6.assign (.t a8) a8,?_⟩
 refine⟨⟨([],j2 [c8,c8,c8]),a8⟩,?_⟩
 refine A6.alloc p3 fun b10 => ?_
 refine⟨⟨([_],j2 [c8,c8,c8]),a8⟩,?_⟩
 refine A6.C8 p3 (.t rfl) (.t rfl) .z ?_
 refine⟨⟨([_],j2 [c8,c8,c8]),a8⟩,?_⟩
 show F8 _ _ _ _ _ _ ((11,_)::(10,_)::(20,_)::(19,_)::(13,_)::(18,_)::(17,_)::(16,_)::(15,_)::(14,_)::_) _
 refine .nil (.seq (.seq ?_))
 have hz:=a9J a k t l
 refine .region a8 (.p (.assign (.i a8) (.nil (.block (.F4 (α:=Nat) [(3,_),(4,_),(8,_),(10,_)] (fun x R=>(11,.v (V2 a k t (l.take x)).isSome)::(12,.v (x:Int))::R) (fun x => [(true,.ob (ptr b10 0) ((V2 a k t (l.take x)).getD default)),(true,.ob (ptr b8 0) (default:Tag)),(true,.fz (ptr b5 0) (.p k)),(true,.fz (ptr b4 0) (.p a))]) (fun x=>x≤l.length) (fun x=>l.length - x) (0) (.c2 a8 a8 (.c2 a8 a8 (.nil _))) ?_ (.cons (congrArg (fun q=>some (AV.v q)) hz.1.symm) (.c2 a8 a8 (.c2 a8 a8 (.cons a8 (.nil _))))) (congrArg (fun q => [(true,E9.ob _ q),_,_,_]) hz.2.symm) fun x hF => ?_)))))
 ·simp
 refine .seq (.sr a8 (.mv a8 (.mv a8 (.p (.len Tryz.underlying83 (.t a8) (.p (.lss (.t a8) (.t a8) (.mv a8 (.go 25 a8 (.t a8) (fun hg26 => .move (.t a8) a8) (.p (.u0 (.t a8) (fun hp=>(.q a8 hp)) (.nil (.cond (.t a8) (fun hc27 => ?_) (fun hc27 => ?_))))))))))))))
 ·refine .skip (.seq (.block (.seq (.seq ?_))))
  have hlt:x < l.length∧(V2 a k t (l.take x)).isSome=true:=by simpa using hc27
  refine .region a8 (.mv a8 (.mv a8 (.p (.idx A7 Tryz.underlying83 (.t a8) (.t a8) (by omega) (by omega) (.p (.x3 A7 (.t a8) (.p (.m9 hG (a08 _) (.cons (.t a8) .nil) (.p (.not (.t a8) (.mv a8 (.go 36 a8 (.t a8) (fun hg37 => .move (.t a8) a8) (.go 36 a8 (.t a8) (fun hg38 => .move (.t a8) a8) (.go 36 a8 (.t a8) (fun hg39 => .idx A7 Tryz.underlying83 (.q a8 hg39) (.q a8 hg39) (by first|omega|(simp;omega)|(have:=hg39;simp at this;omega)) (by first|omega|(simp;omega)|(have:=hg39;simp at this;omega)) a8) (.go 36 a8 (.t a8) (fun hg40 => .m0 j3.l0 (fun x=>x.Kind) U8 a8 (fun _=>a8) (.q a8 hg40) a8) (.go 36 a8 (.t a8) (fun hg41 => .x3 D0 (.q a8 hg41) a8) (.go 36 a8 (.t a8) (fun hg42 => .D4 (.q a8 hg42) (.i a8) a8) (.p (.E0 (.t a8) (fun hp=>(.q a8 hp)) (.nil (.cond (.t a8) (fun hc43 => ?_) (fun hc43 => ?_))))))))))))))))))))))
  ·refine .sr a8 (.p (.Q2 (default:(J7 32 UInt8)) p3 O7 .nil a8 (.n (.C8 p3 (.t a8) (.t a8) .z1 (.p (.assign .b (.nil (.ret ?_))))))))
   refine⟨_,.r2 a8 (.cell p3 a8 .z1) (.tmp a8),?_⟩
   have e:a1E a k t l=(default,false):=by unfold a1E;rw [b1Y hlt.1 hc43];rfl
   rw [e]
  ·refine .skip ?_
   have hst:=a9K hlt.1 hlt.2 hc43
   refine .a1o [[j1,j1,j1,j1],[j0,j1,j1,j1]] [[j1,j1,j1,j1],[j1,j1,j1,j1],[j1,j1,j1,j1],[j1,j1,j1,j1],[j1,j1,j1,j1],[j1,j1,j1,j1],[j1,j1,j1,j1],[j1,j1,j1,j1],[j1,j1,j1,j1],[j1,j1,j1,j1],[j0,j1,j1,j1],[],[j0,j1,j1,j1]] [] [] 1 (by kernel_rfl) 13 [[],[],[],[],[(48,2),(49,3)],[(50,4)],[(51,5)],[(46,0),(47,1),(52,6)],[(53,7)],[(45,8)],[(45,8)],[(54,9)],[(55,10)]] [11] rfl (by kernel_rfl) rfl (by kernel_rfl) rfl (by decide) (by simp) (fun p hp=>by cases hp) (by kernel_rfl) rfl ?_
   refine⟨_,fun H=>j6.x3 u7 (.t a8) a8,?_⟩
   refine⟨_,fun H=>j6.I4 p3 (.t a8) (y3.app .z) a8,?_⟩
   refine⟨_,fun H=>j6.move (.t a8) a8,?_⟩
   refine⟨_,fun H=>j6.move (.t a8) a8,?_⟩
   refine⟨_,fun H=>j6.idx A7 Tryz.underlying83 (.t a8) (.t a8) (by omega) (by omega) a8,?_⟩
   refine⟨_,fun H=>j6.x3 A7 (.t a8) a8,?_⟩
   refine⟨_,fun H=>j6.m9 hG (a8J _) (.cons (.t a8) .nil) a8,?_⟩
   refine⟨_,fun H=>j6.m9 hG (b4N _ _ _) (.cons (.t a8) (.cons (.t a8) (.cons (.t a8) .nil))) a8,?_⟩
   refine⟨_,fun H=>j6.move (.t a8) a8,?_⟩
   refine⟨_,fun H=>j6.E5 (.t a8) a8,?_⟩
   refine⟨_,fun H=>j6.E6 (.t a8) a8,?_⟩
   refine .inl ?_
   refine⟨_,fun H=>j6.assign (.t a8) a8,?_⟩
   refine⟨a8,?_⟩
   refine⟨⟨j2 [c8,c8,c8,c8],a8⟩,fun Ys7 => ?_⟩
   refine A6.C8 p3 (.t rfl) (.t rfl) (y3.app (y3.app .z)) ?_
   refine⟨[],_,a8,?_⟩
   refine⟨⟨j2 [_,c8,c8,c8],a8⟩,fun ws7 => ?_⟩
   refine⟨⟨j2 [_,c8,c8,c8],a8⟩,fun _ => ?_⟩
   show F8 _ _ _ _ _ _ ((11,_)::(55,_)::(54,_)::(45,_)::(53,_)::(52,_)::(51,_)::(50,_)::(49,_)::(48,_)::(47,_)::(46,_)::_) _
   refine .nil (.region a8 (.mv a8 (.p (.add (.t a8) (.i a8) (by omega) (by omega) (.ag a8 (.nil ?_))))))
   refine⟨x+1,.cons (congrArg (fun q=>some (AV.v q)) hst.1.symm) (.c2 rfl rfl (.c2 rfl rfl (.cons rfl (.nil _)))),congrArg (fun q => [(true,E9.ob _ q),_,_,_]) hst.2.symm,?_,by omega⟩
   omega
 ·refine .exit (.seq (.sr a8 (.mv a8 (.p (.not (.t a8) (.nil (.cond (.t a8) (fun hc57 => ?_) (fun hc57 => ?_))))))))
  ·refine .sr a8 (.p (.Q2 (default:(J7 32 UInt8)) p3 O7 .nil a8 (.n (.C8 p3 (.t a8) (.t a8) .z1 (.p (.assign .b (.nil (.ret ?_))))))))
   refine⟨_,.r2 a8 (.cell p3 a8 .z1) (.tmp a8),?_⟩
   have hn:V2 a k t l=none:=a62 a k t l x (by simpa using hc57)
   have e:a1E a k t l=(default,false):=by unfold a1E;rw [hn];rfl
   rw [e]
  ·refine .skip (.sr a8 (.p (.I4 p3 (.t a8) .z (.n (.C8 p3 (.t a8) (.t a8) .z1 (.p (.assign .b (.nil (.ret ?_)))))))))
   refine⟨_,.r2 a8 (.cell p3 a8 .z1) (.tmp a8),?_⟩
   have h57:(V2 a k t (l.take x)).isSome=true:=by simpa using hc57
   have hx:l.length≤x:=by simpa [h57] using hc27
   rw [List.take_of_length_le hx] at h57 ⊢
   unfold a1E
   rw [h57]
theorem b7S (a:C7) (k:Tag) (t:List UInt8) (l:List Pred) (ht:t.length≤1000000):u1 gl Tryz.prog 102 [.v a,.v k,.v t,.v l] (fun x=>x = .t2 (.v (a1E a k t l).1) (.v (a1E a k t l).2)):=by
 refine u1.intro Tryz.func102 rfl (by kernel_rfl) 58 rfl rfl _ rfl fun C hC hG=>(.sr rfl (.h (.box (.t rfl) fun b4 => .h (.box (.t rfl) fun b5 => .h (.alloc p3 fun b8 => .p (.assign .b (.nil (.seq (.B0 hC .z2 (.Q5 4 rfl .z2 (.B0 hC .z1 (.Q5 5 rfl .z1 (.Y4 3 rfl fun hl3=>(.E7 [j1,j1,j1] (by kernel_rfl) 11 [[],[],[],[(19,2)],[(17,0),(18,1),(20,3)],[(21,4)],[(16,5)],[(16,5)],[],[(10,8),(22,6)],[(23,7)]] [8,9] rfl (by kernel_rfl) rfl (by kernel_rfl) (by decide) ?_))))))))))))))
 refine⟨_,fun H=>j6.x3 u7 (.t a8) a8,?_⟩
 refine⟨_,fun H=>j6.x3 p3 (.t a8) a8,?_⟩
 refine⟨_,fun H=>j6.move (.t a8) a8,?_⟩
 refine⟨_,fun H=>j6.m9 hG (a9O _ _ (by decide) (by omega)) (.cons (.s [103,114,97,110,116] (by decide) (by decide)) (.cons (.t a8) .nil)) a8,?_⟩
 refine⟨_,fun H=>j6.m9 hG (a1x _ _ _) (.cons (.t a8) (.cons (.t a8) (.cons (.t a8) .nil))) a8,?_⟩
 refine⟨_,fun H=>j6.move (.t a8) a8,?_⟩
 refine⟨_,fun H=>j6.E5 (.t a8) a8,?_⟩
 refine⟨_,fun H=>j6.E6 (.t a8) a8,?_⟩
 refine .inl (.inl ?_)
 refine⟨_,fun H=>j6.assign (.t a8) a8,?_⟩
 refine⟨⟨([],j2 [c8,c8,c8]),a8⟩,?_⟩
 refine A6.alloc p3 fun b10 => ?_
 refine⟨⟨([_],j2 [c8,c8,c8]),a8⟩,?_⟩
 refine A6.C8 p3 (.t rfl) (.t rfl) .z ?_
 refine⟨⟨([_],j2 [c8,c8,c8]),a8⟩,?_⟩
 show F8 _ _ _ _ _ _ ((11,_)::(10,_)::(23,_)::(22,_)::(16,_)::(21,_)::(20,_)::(19,_)::(18,_)::(17,_)::_) _
 refine .nil (.seq (.seq ?_))
 have hz:=a9J a k t l
 refine .region a8 (.mv a8 (.p (.len Tryz.underlying83 (.t a8) (.p (.move (.i a8) (.nil (.block (.F4 (α:=Nat) [(4,_),(8,_),(10,_),(24,_),(25,_)] (fun x R=>(11,.v (V2 a k t (l.take x)).isSome)::(26,.v (x:Int))::R) (fun x => [(true,.ob (ptr b10 0) ((V2 a k t (l.take x)).getD default)),(true,.ob (ptr b8 0) (default:Tag)),(true,.fz (ptr b5 0) (.p k)),(true,.fz (ptr b4 0) (.p a))]) (fun x=>x≤l.length) (fun x=>l.length - x) (0) (.c2 a8 a8 (.c2 a8 a8 (.cons a8 (.nil _)))) ?_ (.cons (congrArg (fun q=>some (AV.v q)) hz.1.symm) (.c2 a8 a8 (.c2 a8 a8 (.c2 a8 a8 (.nil _))))) (congrArg (fun q => [(true,E9.ob _ q),_,_,_]) hz.2.symm) fun x hF => ?_))))))))
 ·simp
 refine .sr a8 (.p (.lss (.t a8) (.t a8) (.nil (.seq (.o8 (.t a8) (fun hc27 => ?_) (fun hc27 => ?_))))))
 ·refine .skip (.seq (.block (.sr a8 (.p (.idx A7 Tryz.underlying83 (.t a8) (.t a8) (by omega) (by omega) (.p (.x3 A7 (.t a8) (.h (.alloc A7 fun b13 => .n (.C8 A7 (.t a8) (.t a8) .z (.nil (.seq ?_))))))))))))
  have hlt:x < l.length:=by omega
  refine .B0 hC .z (.Q5 13 a8 .z (.drop (.region a8 (.p (.x3 A7 (.t a8) (.p (.m9 hG (a60 _) (.cons (.t a8) .nil) (.mv a8 (.p (.E5 (.t a8) (.p (.E6 (.t a8) (.ag a8 (.ag a8 (.nil (.seq (.sr a8 (.mv a8 (.p (.not (.t a8) (.mv a8 (.go 37 a8 (.t a8) (fun hg38 => .move (.t a8) a8) (.go 37 a8 (.t a8) (fun hg39 => .W8 (.q a8 hg39) (.i a8) a8) (.p (.E0 (.t a8) (fun hp=>(.q a8 hp)) (.mv a8 (.go 41 a8 (.t a8) (fun hg42 => .m0 j3.l0 (fun x=>x.Kind) U8 a8 (fun _=>a8) (.t a8) a8) ?_)))))))))))))))))))))))))))
  refine .go 41 a8 (.t a8) (fun hg43 => .x3 D0 (.q a8 hg43) a8) (.go 41 a8 (.t a8) (fun hg44 => .D4 (.q a8 hg44) (.i a8) a8) (.p (.E0 (.t a8) (fun hp=>(.q a8 hp)) (.nil (.cond (.t a8) (fun hc45 => ?_) (fun hc45 => ?_))))))
  ·refine .sr a8 (.p (.Q2 (default:(J7 32 UInt8)) p3 O7 .nil a8 (.n (.C8 p3 (.t a8) (.t a8) .z1 (.p (.assign .b (.nil (.ret ?_))))))))
   refine⟨_,.r2 a8 (.cell p3 a8 .z1) (.tmp a8),?_⟩
   rw [a7s] at hc45
   have hn:V2 a k t l=none:=(by by_cases hs:(V2 a k t (l.take x)).isSome=true;exact b1Y hlt (by simp_all);exact a62 a k t l x (by simpa using hs))
   have e:a1E a k t l=(default,false):=by unfold a1E;rw [hn];rfl
   rw [e]
  ·refine .skip ?_
   rw [a7s] at hc45
   have hlt2:(V2 a k t (l.take x)).isSome=true:=by simp_all
   have hst:=a9K hlt hlt2 (by simp_all)
   have hpl:=a14 l[x]
   refine .a1o [[j1,j1,j1,j1],[j0,j1,j1,j1]] [[j1,j1,j1,j1],[j1,j1,j1,j1],[j1,j1,j1,j1],[j1,j1,j1,j1],[j1,j1,j1,j1],[j1,j1,j1,j1],[j1,j1,j1,j1],[j0,j1,j1,j1],[],[j0,j1,j1,j1]] [] [] 1 (by kernel_rfl) 10 [[],[],[],[(50,2)],[(48,0),(49,1),(51,3)],[(52,4)],[(47,5)],[(47,5)],[(53,6)],[(54,7)]] [8] rfl (by kernel_rfl) rfl (by kernel_rfl) rfl (by decide) (by simp) (fun p hp=>by cases hp) (by kernel_rfl) rfl ?_
   refine⟨_,fun H=>j6.x3 u7 (.t a8) a8,?_⟩
   refine⟨_,fun H=>j6.I4 p3 (.t a8) (y3.app .z) a8,?_⟩
   refine⟨_,fun H=>j6.move (.t a8) a8,?_⟩
   refine⟨_,fun H=>j6.m9 hG (a9O _ _ (by decide) (Nat.le_trans (a14 _) (by decide))) (.cons (.s [99,111,110,100,105,116,105,111,110] (by decide) (by decide)) (.cons (.t a8) .nil)) a8,?_⟩
   refine⟨_,fun H=>j6.m9 hG (a1x _ _ _) (.cons (.t a8) (.cons (.t a8) (.cons (.t a8) .nil))) a8,?_⟩
   refine⟨_,fun H=>j6.move (.t a8) a8,?_⟩
   refine⟨_,fun H=>j6.E5 (.t a8) a8,?_⟩
   refine⟨_,fun H=>j6.E6 (.t a8) a8,?_⟩
   refine .inl ?_
   refine⟨_,fun H=>j6.assign (.t a8) a8,?_⟩
   refine⟨a8,?_⟩
   refine⟨⟨j2 [c8,c8,c8,c8],a8⟩,fun Ys8 => ?_⟩
   refine A6.C8 p3 (.t rfl) (.t rfl) (y3.app (y3.app .z)) ?_
   refine⟨[],_,a8,?_⟩
   refine⟨⟨j2 [_,c8,c8,c8],a8⟩,fun ws8 => ?_⟩
   refine⟨⟨j2 [_,c8,c8,c8],a8⟩,fun _ => ?_⟩
   show F8 _ _ _ _ _ _ ((11,_)::(54,_)::(53,_)::(47,_)::(52,_)::(51,_)::(50,_)::(49,_)::(48,_)::_) _
   refine .nil (.region a8 (.p (.add (.t a8) (.i a8) (by omega) (by omega) (.mv a8 (.nil ?_)))))
   refine⟨x+1,.cons (congrArg (fun q=>some (AV.v q)) hst.1.symm) (.c2 rfl rfl (.c2 rfl rfl (.c2 rfl rfl (.nil _)))),congrArg (fun q => [(true,E9.ob _ q),_,_,_]) hst.2.symm,?_,by omega⟩
   omega
 ·refine .exit (.sr a8 (.p (.I4 p3 (.t a8) .z (.mv a8 (.n (.C8 p3 (.t a8) (.t a8) .z1 (.ag a8 (.nil (.ret ?_)))))))))
  refine⟨_,.r2 a8 (.cell p3 a8 .z1) (.tmp a8),?_⟩
  rw [List.take_of_length_le (by omega)]
  rfl
theorem c1n (k:Tag) (l:List (List UInt8)) (hl:l.length≤1000000) (p:Tag→List UInt8→Tag×Bool):u1 gl Tryz.prog 93 [.v k,.v l,.b7B Tryz.prog p] (fun x=>x = .t2 (.v ((O5 p k l).getD [])) (.v (O5 p k l).isSome)):=by
 refine u1.intro Tryz.func93 rfl (by kernel_rfl) 41 rfl rfl _ rfl fun C hC hG=>(.sr rfl (.h (.box (.t rfl) fun b3 => .p (.assign (.K4 (α:=(J7 32 UInt8))) (.p (.assign .b (.nil (.seq (.B0 hC .z (.Q5 3 rfl .z (.drop (.region rfl (.p (.x3 p3 (.t rfl) (.h (.buildSlice (α:=(J7 32 UInt8)) p3 Tryz.underlying54 (.cons (.t rfl) .nil) rfl (by decide) fun b14 => .ag rfl (.nil (.seq (.sr rfl ?_)))))))))))))))))))
 refine .mv a8 (.p (.len Tryz.underlying164 (.t a8) (.p (.move (.i a8) (.nil (.block (.F4 (α:=Nat×Value×List Tag) [(2,_),(15,_),(16,_)] (fun x R=>(8,.raw x.2.1)::(17,.v (x.1:Int))::R) (fun x => [(true,.own 26 x.2.1 x.2.2)]) (fun x=>x.1≤l.length∧O5 p k (l.take x.1)=some x.2.2∧x.2.2.length=x.1+1) (fun x=>l.length - x.1) ((0,slc b14 0 1 1,[k])) (.c2 a8 a8 (.cons a8 (.nil _))) ?_ (.c2 a8 a8 (.c2 a8 a8 (.cons a8 (.nil _)))) (a8) fun x hF => ?_)))))))
 ·exact⟨Nat.zero_le _,a8,a8⟩
 obtain⟨i,w,s⟩:=x
 obtain⟨h1,h2,h3⟩:=hF
 dsimp only at h1 h2 h3 ⊢
 refine .sr a8 (.p (.lss (.t a8) (.t a8) (.nil (.seq (.o8 (.t a8) (fun hc18 => ?_) (fun hc18 => ?_))))))
 ·refine .skip (.seq (.block (.sr a8 (.p (.idx P1 Tryz.underlying164 (.t a8) (.t a8) (by omega) (by omega) (.p (.x3 P1 (.t a8) (.ag a8 (.nil (.sr a8 (.mv a8 (.mv a8 (.mv a8 (.p (.a8s Tryz.underlying54 a8 .z (.p (.sub (.t a8) (.i a8) (by omega) (by omega) (.p (.a2z p3 Tryz.underlying54 a8 .z (.t a8) (by omega) (by omega) (.p (.b7j p3 (.t a8) .z (by omega) (.mv a8 (.p (.b5O a8 (.t a8) (.t a8) (.mv a8 (.p (.E5 (.t a8) (.p (.E6 (.t a8) (.h (.alloc p3 fun b11 => .n (.C8 p3 (.t a8) (.t a8) .z (.ag a8 (.B0 hC .z (.Q5 11 a8 .z (.drop ?_))))))))))))))))))))))))))))))))))))
  refine .nil (.seq (.seq ?_))
  rw [b1Z (by omega)] at *
  refine .region a8 (.mv a8 (.p (.not (.t a8) (.nil (.cond (.t a8) (fun hc34 => ?_) (fun hc34 => ?_))))))
  ·refine .sr a8 (.p (.assign (.K4 (α:=(J7 32 UInt8))) (.p (.assign .b (.nil (.ret ?_))))))
   refine⟨_,.r2 a8 (.tmp a8) (.tmp a8),?_⟩
   have e:O5 p k l=none:=b7L (by omega) h2 (by simpa using hc34)
   rw [e];rfl
  ·refine .skip (.region a8 (.mv a8 (.p (.x3 p3 (.t a8) (.h (.buildSlice (α:=(J7 32 UInt8)) p3 Tryz.underlying54 (.cons (.t a8) .nil) a8 (by decide) fun b37 => .h (.append c2c (.inl ⟨_,Tryz.underlying54⟩) a8 .z1 (.own a8 .z) (by simp;omega) (by simp;omega) (fun w38 => .ag a8 ?_) a8)))))))
   refine .drop (.nil (.region a8 (.p (.add (.t a8) (.i a8) (by omega) (by omega) (.mv a8 (.nil ?_))))))
   refine⟨(i+1,_,_),.c2 rfl rfl (.c2 rfl rfl (.cons rfl (.nil _))),rfl,?_,by dsimp only;omega⟩
   exact⟨by dsimp only;omega,b5S (by omega) h2 (by simpa using hc34),by simp;omega⟩
 ·refine .exit (.seq (.y0 hC .z (.as 8 a8 .z (.region a8 (.mv a8 (.ag a8 (.p (.assign .b (.nil (.ret ?_))))))))))
  refine⟨_,.r2 a8 (.tmp a8) (.tmp a8),?_⟩
  rw [List.take_of_length_le (by omega)] at h2
  rw [h2];rfl
theorem b9D (a:C7) (k:Tag) (m:List UInt8):u1 gl Tryz.prog 94 [.v k,.v m,.p a] (fun r=>r = .t2 (.v (m8 a k m).1) (.v (m8 a k m).2)):=by
 refine u1.intro Tryz.func94 rfl (by kernel_rfl) 13 rfl rfl _ rfl fun C hC hG=>(.sr rfl (.h (.box (.t rfl) fun b3 => .h (.alloc p3 fun b5 => .p (.assign .b (.nil (.sr rfl (.p (.x3 u7 (.t rfl) (.p (.I4 p3 (.t rfl) .z1 (.mv rfl (.p (.m9 hG (a1x _ _ _) (.cons (.t rfl) (.cons (.t rfl) (.cons (.t rfl) .nil))) (.p (.E5 (.t rfl) (.p (.E6 (.t rfl) (.n (.C8 p3 (.t rfl) (.t rfl) .z (.ag rfl (.nil (.ret ?_)))))))))))))))))))))))
 refine⟨_,.r2 a8 (.cell p3 a8 .z) (.tmp a8),?_⟩
 rfl
theorem c1o (a:C7) (root:p6) (n:Int) (l:List Cav) (hl:l.length≤100000):u1 gl Tryz.prog 38 [.v a,.v root,.v n,.v l] (fun x=>x = .t2 (.v (X8 a root n l).1) (.v (X8 a root n l).2)):=by
 refine u1.intro Tryz.func38 rfl (by kernel_rfl) 57 rfl rfl _ rfl fun C hC hG=>(.sr rfl (.h (.box (.t rfl) fun b4 => .h (.box (.t rfl) fun b5 => .p (.assign (.K4 (α:=(J7 32 UInt8))) (.p (.assign (.i rfl) (.nil (.seq (.seq (.B0 hC .z1 (.Q5 4 rfl .z1 (.B0 hC .z (.Q5 5 rfl .z (.region rfl (.p (.m0 p6.l0 (fun x=>x.Number) a8j rfl (fun _=>rfl) (.t rfl) (.p (.x3 D0 (.t rfl) (.mv rfl (.p (.m9 hG (b7P _ _) (.cons (.t rfl) (.cons (.t rfl) .nil)) (.p (.not (.t rfl) (.nil (.cond (.t rfl) (fun hc21 => ?_) (fun hc21 => ?_)))))))))))))))))))))))))))
 ·refine .sr a8 (.p (.assign (.K4 (α:=(J7 32 UInt8))) (.p (.assign (.i a8) (.nil (.ret ?_))))))
  refine⟨_,.r2 a8 (.tmp a8) (.tmp a8),?_⟩
  rw [b9z (by simpa using hc21)]
 ·refine .skip (.seq ?_)
  have hro:K6 root.Number n=true:=by simpa using hc21
  have hr:=a7t hro
  refine .region a8 (.mv a8 (.p (.m9 hG (b5W _ (by omega) (by omega)) (.cons (.t a8) .nil) (.h (.buildSlice (α:=(List UInt8)) P1 Tryz.underlying164 (.cons (.t a8) .nil) a8 (by decide) fun b24 => .ag a8 (.nil (.seq (.sr a8 (.mv a8 (.p (.len Tryz.underlying24 (.t a8) (.p (.move (.i a8) (.nil (.block (.F4 (α:=Nat×Value) [(4,_),(5,_),(25,_),(26,_)] (fun x R=>(10,.raw x.2)::(27,.v (x.1:Int))::R) (fun x => [(true,.own 86 x.2 (C5 n (l.take x.1))),(true,.fz (ptr b5 0) (.p root)),(true,.fz (ptr b4 0) (.p a))]) (fun x=>x.1≤l.length∧(l.take x.1).all H7=true) (fun x=>l.length - x.1) ((0,slc b24 0 1 1)) (.c2 a8 a8 (.c2 a8 a8 (.nil _))) ?_ (.c2 a8 a8 (.c2 a8 a8 (.c2 a8 a8 (.nil _)))) (a8) fun x hF => ?_))))))))))))))))
  ·exact⟨Nat.zero_le _,a8⟩
  obtain⟨i,w⟩:=x
  obtain⟨h1,h2⟩:=hF
  dsimp only at h1 h2 ⊢
  refine .sr a8 (.p (.lss (.t a8) (.t a8) (.nil (.seq (.o8 (.t a8) (fun hc28 => ?_) (fun hc28 => ?_))))))
  ·refine .skip (.seq (.block (.sr a8 (.p (.idx T7 Tryz.underlying24 (.t a8) (.t a8) (by omega) (by omega) (.p (.x3 T7 (.t a8) (.h (.alloc T7 fun b12 => .n (.C8 T7 (.t a8) (.t a8) .z (.nil (.seq (.B0 hC .z (.Q5 12 a8 .z (.drop (.region a8 (.p (.x3 T7 (.t a8) (.p (.m9 hG (b2e _) (.cons (.t a8) .nil) (.mv a8 (.p (.E5 (.t a8) (.p (.E6 (.t a8) (.ag a8 (.ag a8 (.nil ?_))))))))))))))))))))))))))))
   refine .seq (.sr a8 (.mv a8 (.p (.W8 (.t a8) (.i a8) (.nil (.o8 (.t a8) (fun hc37 => ?_) (fun hc37 => ?_)))))))
   ·refine .sr a8 (.mv a8 (.p (.assign (.K4 (α:=(J7 32 UInt8))) (.ag a8 (.nil (.ret ?_))))))
    refine⟨_,.r2 a8 (.tmp a8) (.tmp a8),?_⟩
    have hco:H7 l[i]=false:=by cases hc:H7 l[i];rfl;(exact absurd (by rw [show W3 l[(i:Int).toNat]=W3 l[i] from rfl,a1F hc]) hc37)
    rw [show W3 l[(i:Int).toNat]=([],5) from a5c (by rw [show H7 l[(i:Int).toNat]=false from hco];decide),b9A hro (b0r H7 l i (by omega) hco)]
   ·refine .skip ?_
    have hco:H7 l[i]=true:=by cases hc:H7 l[i];(exact absurd (by rw [show W3 l[(i:Int).toNat]=W3 l[i] from rfl,a5c (by rw [hc];decide)];decide) hc37);rfl
    have hcl:=a5t n (l.take i)
    have htl:(l.take i).length≤l.length:=by simp;omega
    refine .region a8 (.mv a8 (.mv a8 (.p (.m9 hG (a9O _ _ (by decide) (Nat.le_trans (a36 _) (by decide))) (.cons (.s [99,97,118,101,97,116] (by decide) (by decide)) (.cons (.t a8) .nil)) (.h (.buildSlice (α:=(List UInt8)) P1 Tryz.underlying164 (.cons (.t a8) .nil) a8 (by decide) fun b42 => .h (.append c2d (.inl ⟨_,Tryz.underlying164⟩) a8 .z1 (.own a8 .z) (by simp;omega) (by simp;omega) (fun w43 => .ag a8 ?_) a8)))))))
    refine .drop (.nil (.region a8 (.p (.add (.t a8) (.i a8) (by omega) (by omega) (.mv a8 (.nil ?_))))))
    refine⟨(i+1,_),.c2 rfl rfl (.c2 rfl rfl (.c2 rfl rfl (.nil _))),congrArg (fun q => [(true,E9.own _ _ q),_,_]) (a8H n l i (by omega)).symm,?_,by dsimp only;omega⟩
    exact⟨by dsimp only;omega,by rw [all_succ H7 l i (by omega),h2,hco];rfl⟩
  ·refine .exit (.seq ?_)
   have ht:=List.take_of_length_le (show l.length≤i by omega)
   rw [ht] at h2 ⊢
   have hcl:=a5t n l
   refine .y0 hC .z (.as 10 a8 .z (.region a8 (.p (.m0 p6.l1 (fun x=>x.Key) a96 a8 (fun _=>a8) (.t a8) (.p (.x3 p3 (.t a8) (.mv a8 (.p (.b9v hG (fun x y=>b9D a x y) (.cons (.t a8) .nil) (.p (.m9 hG (c1n _ _ (by omega) _) (.cons (.t a8) (.cons (.t a8) (.cons (.t a8) .nil))) (.mv a8 (.p (.E5 (.t a8) (.p (.E6 (.t a8) (.ag a8 (.ag a8 (.nil (.seq (.sr a8 (.mv a8 (.p (.not (.t a8) (.nil (.cond (.t a8) (fun hc54 => ?_) (fun hc54 => ?_)))))))))))))))))))))))))))
   ·refine .sr a8 (.p (.assign (.K4 (α:=(J7 32 UInt8))) (.p (.assign (.i a8) (.nil (.ret ?_))))))
    refine⟨_,.r2 a8 (.tmp a8) (.tmp a8),?_⟩
    rw [b7M hro h2 (by simpa using hc54)]
   ·refine .skip (.seq ?_)
    obtain⟨T0,hT⟩:=Option.isSome_iff_exists.1 (show(O5 (m8 a) root.Key (C5 n l)).isSome=true by simpa using hc54)
    obtain⟨T,hT2,hT3⟩:=a5T (k:=root.Key) hT
    subst hT2
    rw [hT]
    refine .region a8 (.mv a8 (.p (.b7b p3 Tryz.underlying54 (.t a8) (.i a8) (by omega) (by simp;omega) (.ag a8 (.p (.assign (.i a8) (.nil (.ret ?_))))))))
    refine⟨_,.r2 a8 (.tmp a8) (.tmp a8),?_⟩
    rw [b9B hro h2 hT];rfl
theorem b9E (a:C7) (l:List Tag) (hl:l.length≤100000):u1 gl Tryz.prog 40 [.v a,.v l] (fun x=>x = .t2 (.v (a1D a l).1) (.v (a1D a l).2)):=by
 refine u1.intro Tryz.func40 rfl (by kernel_rfl) 33 rfl rfl _ rfl fun C hC hG=>(.sr rfl (.h (.box (.t rfl) fun b2 => .p (.assign (.K4 (α:=(J7 32 UInt8))) (.p (.assign (.i rfl) (.nil (.seq (.B0 hC .z (.Q5 2 rfl .z (.region rfl (.p (.assign .raw (.nil (.seq (.seq (.a19 26 Tag (.region rfl ?_))))))))))))))))))
 refine .mv a8 (.p (.len Tryz.underlying54 (.t a8) (.p (.move (.i a8) (.nil (.block (.F4 (α:=Nat×Value×List Tag) [(2,_),(11,_),(12,_)] (fun x R=>(6,.raw x.2.1)::(13,.v (x.1:Int))::R) (fun x => [(true,.own 26 x.2.1 x.2.2),(true,.fz (ptr b2 0) (.p a))]) (fun x=>x.1≤l.length∧a0I a (l.take x.1)=some x.2.2∧x.2.2.length=x.1) (fun x=>l.length - x.1) ((0,.slice none 0 0,[])) (.c2 a8 a8 (.cons a8 (.nil _))) ?_ (.c2 a8 a8 (.c2 a8 a8 (.cons a8 (.nil _)))) (a8) fun x hF => ?_)))))))
 ·exact⟨Nat.zero_le _,a8,a8⟩
 obtain⟨i,w,s⟩:=x
 obtain⟨h1,h2,h3⟩:=hF
 dsimp only at h1 h2 h3 ⊢
 refine .sr a8 (.p (.lss (.t a8) (.t a8) (.nil (.seq (.o8 (.t a8) (fun hc14 => ?_) (fun hc14 => ?_))))))
 ·refine .skip (.seq (.block (.sr a8 (.p (.idx p3 Tryz.underlying54 (.t a8) (.t a8) (by omega) (by omega) (.p (.x3 p3 (.t a8) (.h (.alloc p3 fun b8 => .n (.C8 p3 (.t a8) (.t a8) .z (.nil (.seq (.B0 hC .z (.Q5 8 a8 .z (.drop (.region a8 (.p (.x3 u7 (.t a8) (.p (.x3 p3 (.t a8) (.h (.buildSlice (α:=UInt8) U1 Tryz.underlying86 (.cons (.u8 110 a8) (.cons (.u8 111 a8) (.cons (.u8 100 a8) (.cons (.u8 101 a8) .nil)))) a8 (by decide) fun b20 => .h (.same Tryz.underlying86 Tryz.underlying5 a8 .z (by simp) (.y0 hC .z (.as 21 a8 .z ?_)))))))))))))))))))))))))
  refine .p (.m9 hG (a1x _ _ _) (.cons (.t a8) (.cons (.t a8) (.cons (.t a8) .nil))) (.mv a8 (.p (.E5 (.t a8) (.p (.E6 (.t a8) (.h (.alloc p3 fun b9 => .n (.C8 p3 (.t a8) (.t a8) .z (.ag a8 (.nil (.seq (.seq (.B0 hC .z (.Q5 9 a8 .z (.drop (.drop (.region a8 (.mv a8 (.p (.not (.t a8) (.nil (.cond (.t a8) (fun hc26 => ?_) (fun hc26 => ?_))))))))))))))))))))))))
  ·refine .sr a8 (.p (.assign (.K4 (α:=(J7 32 UInt8))) (.p (.assign (.i a8) (.nil (.ret ?_))))))
   refine⟨_,.r2 a8 (.tmp a8) (.tmp a8),?_⟩
   have e:a0I a l=none:=b5U (i:=i) (by omega) (by simpa [G2] using hc26)
   unfold a1D
   rw [e]
  ·refine .skip (.region a8 (.mv a8 (.p (.x3 p3 (.t a8) (.h (.buildSlice (α:=(J7 32 UInt8)) p3 Tryz.underlying54 (.cons (.t a8) .nil) a8 (by decide) fun b29 => .h (.append c2c (.inl ⟨_,Tryz.underlying54⟩) a8 .z1 (.own a8 .z) (by simp;omega) (by simp;omega) (fun w30 => .ag a8 ?_) a8)))))))
   refine .drop (.nil (.region a8 (.p (.add (.t a8) (.i a8) (by omega) (by omega) (.mv a8 (.nil ?_))))))
   refine⟨(i+1,_,_),.c2 rfl rfl (.c2 rfl rfl (.cons rfl (.nil _))),rfl,?_,by dsimp only;omega⟩
   exact⟨by dsimp only;omega,b3C (i:=i) (by omega) h2 (by simpa [G2] using hc26),by simp;omega⟩
 ·refine .exit (.seq (.y0 hC .z (.as 6 a8 .z (.region a8 (.mv a8 (.ag a8 (.p (.assign (.i a8) (.nil (.ret ?_))))))))))
  refine⟨_,.r2 a8 (.tmp a8) (.tmp a8),?_⟩
  rw [List.take_of_length_le (by omega)] at h2
  unfold a1D
  rw [h2]
theorem b7T (a:C7) (k:Tag) (m:List UInt8):u1 gl Tryz.prog 70 [.v a,.v k,.v m] (fun r=>r = .t3 (.v (a5u a k m).1) (.v (a5u a k m).2.1) (.v (a5u a k m).2.2)):=by
 refine u1.intro Tryz.func70 rfl (by kernel_rfl) 40 rfl rfl _ rfl fun C hC hG=>(.sr rfl (.h (.box (.t rfl) fun b3 => .h (.box (.t rfl) fun b4 => .h (.alloc u7 fun b6 => .h (.alloc p3 fun b7 => .p (.assign (.i rfl) (.nil (.sr rfl (.p (.I4 u7 (.t rfl) .z3 (.p (.I4 p3 (.t rfl) .z2 (.mv rfl (.p (.m9 hG (a5J _ _ _) (.cons (.t rfl) (.cons (.t rfl) (.cons (.t rfl) .nil))) (.mv rfl (.p (.K1 (.t rfl) (.p (.K2 (.t rfl) (.p (.K3 (.t rfl) (.h (.alloc p3 fun b9 => .n (.C8 u7 (.t rfl) (.t rfl) .z4 (.n (.C8 p3 (.t rfl) (.t rfl) .z (.ag rfl (.nil (.seq (.sr rfl (.mv rfl (.p (.W8 (.t rfl) (.i rfl) (.nil ?_))))))))))))))))))))))))))))))))))))
 refine .o8 (.t a8) (fun hc20 => ?_) (fun hc20 => ?_)
 ·refine .sr a8 (.p (.bS0 (α:=j7) a8 u7 a1g (.p (.Q2 (default:(J7 32 UInt8)) p3 O7 .nil a8 (.mv a8 (.n (.C8 u7 (.t a8) (.t a8) .z2 (.n (.C8 p3 (.t a8) (.t a8) .z1 (.ag a8 (.nil (.ret ?_))))))))))))
  refine⟨_,.r3 a8 (.cell u7 a8 .z2) (.cell p3 a8 .z1) (.tmp a8),?_⟩
  unfold a5u
  rw [Q4 hc20]
 ·refine .skip (.sr a8 (.p (.I4 u7 (.t a8) .z4 (.p (.I4 p3 (.t a8) .z (.h (.buildSlice (α:=UInt8) U1 Tryz.underlying86 (.cons (.u8 110 a8) (.cons (.u8 111 a8) (.cons (.u8 100 a8) (.cons (.u8 101 a8) .nil)))) a8 (by decide) fun b27 => .h (.same Tryz.underlying86 Tryz.underlying5 a8 .z (by simp) (.y0 hC .z (.as 28 a8 .z (.p (.m9 hG (a5J _ _ _) (.cons (.t a8) (.cons (.t a8) (.cons (.t a8) .nil))) (.mv a8 (.p (.K1 (.t a8) (.p (.K2 (.t a8) (.p (.K3 (.t a8) (.n (.C8 u7 (.t a8) (.t a8) .z5 (.ag a8 (.nil (.seq (.sr a8 (.mv a8 (.p (.W8 (.t a8) (.i a8) (.nil (.o8 (.t a8) (fun hc34 => ?_) (fun hc34 => ?_)))))))))))))))))))))))))))))))
  ·refine .sr a8 (.p (.bS0 (α:=j7) a8 u7 a1g (.p (.Q2 (default:(J7 32 UInt8)) p3 O7 .nil a8 (.mv a8 (.n (.C8 u7 (.t a8) (.t a8) .z3 (.n (.C8 p3 (.t a8) (.t a8) .z2 (.ag a8 (.nil (.ret ?_))))))))))))
   refine⟨_,.r3 a8 (.cell u7 a8 .z3) (.cell p3 a8 .z2) (.tmp a8),?_⟩
   unfold a5u
   rw [F7 (Decidable.not_not.1 hc20),Q4 (r:=H5 (H5 a k m).1 (H5 a k m).2.1 G2) hc34];rfl
  ·refine .skip (.seq (.E7 [j1,j1,j0,j0,j1,j1] (by kernel_rfl) 5 [[],[],[(38,0)],[(39,1)],[]] [2,3] a8 (by kernel_rfl) a8 (by kernel_rfl) (by decide) ?_))
   refine⟨_,fun H=>j6.I4 u7 (.t a8) (y3.app .z5) a8,?_⟩
   refine⟨_,fun H=>j6.I4 p3 (.t a8) (y3.app .z1) a8,?_⟩
   refine .inl (.inl ?_)
   refine⟨_,fun H=>j6.assign (.i a8) a8,?_⟩
   refine⟨⟨([],j2 [c8,c8,_,_,c8,c8]),a8⟩,?_⟩
   refine A6.C8 u7 (.t rfl) (.t rfl) .z3 ?_
   refine⟨⟨([],j2 [c8,c8,_,_,c8,c8]),a8⟩,?_⟩
   refine A6.C8 p3 (.t rfl) (.t rfl) .z2 ?_
   refine⟨⟨([],j2 [c8,c8,_,_,c8,c8]),a8⟩,?_⟩
   show F8 _ _ _ _ _ _ ((8,_)::(39,_)::(38,_)::_) _
   refine .nil (.ret ?_)
   refine⟨_,.r3 a8 (.cell u7 a8 .z3) (.cell p3 a8 .z2) (.tmp a8),?_⟩
   unfold a5u
   rw [F7 (Decidable.not_not.1 hc20),F7 (r:=H5 (H5 a k m).1 (H5 a k m).2.1 G2) (Decidable.not_not.1 hc34)];rfl
theorem b7U (a:C7) (root:p6) (n:Int):u1 gl Tryz.prog 28 [.v a,.v root,.v n] (fun r=>r = .t3 (.v (a7u a root n).1) (.v (a7u a root n).2.1) (.v (a7u a root n).2.2)):=by
 refine u1.intro Tryz.func28 rfl (by kernel_rfl) 50 rfl rfl _ rfl fun C hC hG=>(.sr rfl (.h (.box (.t rfl) fun b3 => .h (.box (.t rfl) fun b4 => .h (.alloc u7 fun b6 => .h (.alloc P6 fun b7 => .p (.assign (.i rfl) (.nil (.seq (.sr rfl (.p (.x4 p6.l0 a8j rfl (.t rfl) (.p (.K0 (fun x=>x.Number) D0 (.t rfl) .z2 (fun _=>rfl) (.p (.lss (.t rfl) (.i rfl) (.mv rfl (.go 14 rfl (.t rfl) (fun hg15 => .x4 p6.l0 a8j rfl (.t rfl) rfl) (.go 14 rfl (.t rfl) (fun hg16 => .K0 (fun x=>x.Number) D0 (.q rfl hg16) .z2 (fun _=>rfl) rfl) (.go 14 rfl (.t rfl) (fun hg17 => .gtr (.q rfl hg17) (.i rfl) rfl) (.p (.E0 (.t rfl) (fun hp=>(.q rfl hp)) (.mv rfl (.go 19 rfl (.t rfl) (fun hg20 => .move (.t rfl) rfl) (.go 19 rfl (.t rfl) (fun hg21 => .lss (.q rfl hg21) (.i rfl) rfl) ?_)))))))))))))))))))))))))
 refine .p (.E0 (.t a8) (fun hp=>(.q a8 hp)) (.mv a8 (.go 23 a8 (.t a8) (fun hg24 => .move (.t a8) a8) (.go 23 a8 (.t a8) (fun hg25 => .gtr (.q a8 hg25) (.i a8) a8) (.p (.E0 (.t a8) (fun hp=>(.q a8 hp)) (.nil (.cond (.t a8) (fun hc26 => ?_) (fun hc26 => ?_)))))))))
 ·refine .sr a8 (.p (.bS0 (α:=j7) a8 u7 a1g (.p (.bS0 (α:=x6) a8 P6 a95 (.n (.C8 u7 (.t a8) (.t a8) .z1 (.n (.C8 P6 (.t a8) (.t a8) .z (.p (.assign (.i a8) (.nil (.ret ?_))))))))))))
  refine⟨_,.r3 a8 (.cell u7 a8 .z1) (.cell P6 a8 .z) (.tmp a8),?_⟩
  unfold a7u
  rw [if_pos (b5T hc26)]
 ·refine .skip (.seq ?_)
  have hr:=a7t (a5U hc26)
  refine .a1o [[j1,j1,j1,j1],[j1,j1,j1,j1],[j1,j1,j1,j0],[j1,j1,j1,j0]] [[j1,j1,j1,j1],[j1,j1,j1,j1],[j1,j1,j1,j1],[j1,j1,j1,j1],[j1,j1,j1,j1],[j1,j1,j1,j1],[j1,j1,j1,j1],[j1,j1,j1,j1],[j1,j1,j1,j0],[j1,j1,j1,j0],[],[],[],[j1,j1,j1,j0]] [] [] 3 (by kernel_rfl) 14 [[],[],[(31,1)],[],[(33,3)],[(30,0),(32,2),(34,4)],[(35,5)],[(29,6)],[(29,6)],[(29,6)],[],[(36,7)],[(9,10),(37,8)],[(38,9)]] [10,11,12] rfl (by kernel_rfl) rfl (by kernel_rfl) rfl (by decide) (by simp) (fun p hp=>by cases hp) (by kernel_rfl) rfl ?_
  refine⟨_,fun H=>j6.I4 u7 (.t a8) (y3.app .z3) a8,?_⟩
  refine⟨_,fun H=>j6.x4 p6.l1 a96 a8 (.t a8) a8,?_⟩
  refine⟨_,fun H=>j6.K0 (fun x=>x.Key) p3 (.t a8) (y3.app .z2) (fun _=>a8) a8,?_⟩
  refine⟨_,fun H=>j6.move (.t a8) a8,?_⟩
  refine⟨_,fun H=>j6.m9 hG (b3F _ (by omega) (by omega)) (.cons (.t a8) .nil) a8,?_⟩
  refine⟨_,fun H=>j6.m9 hG (b7T _ _ _) (.cons (.t a8) (.cons (.t a8) (.cons (.t a8) .nil))) a8,?_⟩
  refine⟨_,fun H=>j6.move (.t a8) a8,?_⟩
  refine⟨_,fun H=>j6.K1 (.t a8) a8,?_⟩
  refine⟨_,fun H=>j6.K2 (.t a8) a8,?_⟩
  refine⟨_,fun H=>j6.K3 (.t a8) a8,?_⟩
  refine .inl (.inl (.inl ?_))
  refine⟨_,fun H=>j6.assign (.t a8) a8,?_⟩
  refine⟨a8,?_⟩
  refine⟨⟨j2 [c8,c8,c8,c8],a8⟩,fun Ys3 => ?_⟩
  refine A6.alloc p3 fun b9 => ?_
  refine⟨[_],_,a8,?_⟩
  refine⟨⟨j2 [c8,c8,c8,c8],a8⟩,fun Ys3 => ?_⟩
  refine A6.C8 u7 (.t rfl) (.t rfl) (.s (y3.app (y3.app .z3))) ?_
  refine⟨[_],_,a8,?_⟩
  refine⟨⟨j2 [c8,c8,c8,_],a8⟩,fun Ys3 => ?_⟩
  refine A6.C8 p3 (.t rfl) (.t rfl) .z ?_
  refine⟨[_],_,a8,?_⟩
  refine⟨⟨j2 [c8,c8,c8,_],a8⟩,fun ws3 => ?_⟩
  refine⟨⟨j2 [c8,c8,c8,_],a8⟩,fun _ => ?_⟩
  show F8 _ _ _ _ _ _ ((10,_)::(9,_)::(38,_)::(37,_)::(36,_)::(29,_)::(35,_)::(34,_)::(33,_)::(32,_)::(31,_)::(30,_)::_) _
  refine .nil (.seq (.sr a8 (.mv a8 (.p (.W8 (.t a8) (.i a8) (.nil (.o8 (.t a8) (fun hc40 => ?_) (fun hc40 => ?_))))))))
  ·refine .sr a8 (.p (.bS0 (α:=j7) a8 u7 a1g (.p (.bS0 (α:=x6) a8 P6 a95 (.mv a8 (.n (.C8 u7 (.t a8) (.t a8) .z2 (.n (.C8 P6 (.t a8) (.t a8) .z1 (.ag a8 (.nil (.ret ?_))))))))))))
   refine⟨_,.r3 a8 (.cell u7 a8 .z2) (.cell P6 a8 .z1) (.tmp a8),?_⟩
   unfold a7u
   rw [if_neg (by rw [a5U hc26];decide),Q4 hc40]
  ·refine .skip (.seq (.E7 [j1,j0,j0,j1,j1] (by kernel_rfl) 9 [[],[],[(45,1)],[],[],[(46,2),(47,3),(48,4)],[(44,0)],[(49,5)],[]] [6,7] a8 (by kernel_rfl) a8 (by kernel_rfl) (by decide) ?_))
   refine⟨_,fun H=>j6.I4 u7 (.t a8) (y3.app .z4) a8,?_⟩
   refine⟨_,fun H=>j6.x4 p6.l0 a8j a8 (.t a8) a8,?_⟩
   refine⟨_,fun H=>j6.K0 (fun x=>x.Number) D0 (.t a8) (y3.app .z3) (fun _=>a8) a8,?_⟩
   refine⟨_,fun H=>j6.move (.t a8) a8,?_⟩
   refine⟨_,fun H=>j6.I4 p3 (.t a8) (y3.app .z) a8,?_⟩
   refine⟨_,fun H=>j6.bS3 x6.l0 x6.l1 x6.l3 a8 P6 a95 (fun c0 c1 c3=>(⟨c0,c1,[],c3⟩:x6)) (fun _ _ _=>a8) a8 a8 a8 a8 (.t a8) (.t a8) (.t a8) a8,?_⟩
   refine .inl (.inl ?_)
   refine⟨_,fun H=>j6.assign (.i a8) a8,?_⟩
   refine⟨⟨([],j2 [c8,_,_,c8,c8]),a8⟩,?_⟩
   refine A6.C8 u7 (.t rfl) (.t rfl) .z2 ?_
   refine⟨⟨([],j2 [c8,_,_,c8,c8]),a8⟩,?_⟩
   refine A6.C8 P6 (.t rfl) (.t rfl) .z1 ?_
   refine⟨⟨([],j2 [c8,_,_,c8,c8]),a8⟩,?_⟩
   show F8 _ _ _ _ _ _ ((8,_)::(49,_)::(48,_)::(47,_)::(46,_)::(45,_)::(44,_)::_) _
   refine .nil (.ret ?_)
   refine⟨_,.r3 a8 (.cell u7 a8 .z2) (.cell P6 a8 .z1) (.tmp a8),?_⟩
   unfold a7u
   rw [if_neg (by rw [a5U hc26];decide),F7 (Decidable.not_not.1 hc40)]
theorem a9P (t:y9):u1 gl Tryz.prog 139 [.v t] (fun r=>r = .v (a0D t)):=by
 refine u1.intro Tryz.func139 rfl (by kernel_rfl) 18 rfl rfl _ rfl fun C hC hG=>(.sr rfl (.h (.box (.t rfl) fun b1 => .p (.assign .b (.nil (.sr rfl (.p (.x4 y9.l0 a57 rfl (.t rfl) (.p (.K0 (fun x=>x.a2T) D0 (.t rfl) .z (fun _=>rfl) (.p (.geq (.t rfl) (.i rfl) (.mv rfl (.go 6 rfl (.t rfl) (fun hg7 => .x4 y9.l0 a57 rfl (.t rfl) rfl) (.go 6 rfl (.t rfl) (fun hg8 => .K0 (fun x=>x.a2T) D0 (.q rfl hg8) .z (fun _=>rfl) rfl) (.go 6 rfl (.t rfl) (fun hg9 => .x4 y9.l1 a58 rfl (.t rfl) rfl) (.go 6 rfl (.t rfl) (fun hg10 => .K0 (fun x=>x.a6g) D0 (.q rfl hg10) .z (fun _=>rfl) rfl) (.go 6 rfl (.t rfl) (fun hg11 => .leq (.q rfl hg11) (.q rfl hg11) rfl) (.p (.u0 (.t rfl) (fun hp=>(.q rfl hp)) (.mv rfl (.go 13 rfl (.t rfl) (fun hg14 => .x4 y9.l1 a58 rfl (.t rfl) rfl) ?_))))))))))))))))))))))
 refine .go 13 a8 (.t a8) (fun hg15 => .K0 (fun x=>x.a6g) D0 (.q a8 hg15) .z (fun _=>a8) a8) (.go 13 a8 (.t a8) (fun hg16 => .leq (.q a8 hg16) (.i a8) a8) (.p (.u0 (.t a8) (fun hp=>(.q a8 hp)) (.ag a8 (.nil (.ret ?_))))))
 refine⟨_,.r1 a8 (.tmp a8),?_⟩
 rfl
theorem a5W (a:C7) (d:Dis) (p:Pred) (hd:d.l8.length≤1000000):u1 gl Tryz.prog 83 [.v a,.v d,.v p] (fun r=>r = .t3 (.v (S6 a d p).1) (.v (S6 a d p).2.1) (.v (S6 a d p).2.2)):=by
 refine u1.intro Tryz.func83 rfl (by kernel_rfl) 54 rfl rfl _ rfl fun C hC hG=>(.sr rfl (.h (.box (.t rfl) fun b3 => .h (.box (.t rfl) fun b4 => .h (.box (.t rfl) fun b5 => .h (.alloc u7 fun b6 => .h (.alloc P3 fun b7 => .p (.assign (.i rfl) (.nil (.seq (.seq (.B0 hC .z2 (.Q5 5 rfl .z2 (.region rfl (.p (.x3 A7 (.t rfl) (.p (.m9 hG (a08 _) (.cons (.t rfl) .nil) (.p (.not (.t rfl) (.nil (.cond (.t rfl) (fun hc13 => ?_) (fun hc13 => ?_)))))))))))))))))))))))
 ·refine .sr a8 (.p (.bS0 (α:=j7) a8 u7 a1g (.p (.bS0 (α:=p8) a8 P3 a9m (.n (.C8 u7 (.t a8) (.t a8) .z1 (.n (.C8 P3 (.t a8) (.t a8) .z (.p (.assign (.i a8) (.nil (.ret ?_))))))))))))
  refine⟨_,.r3 a8 (.cell u7 a8 .z1) (.cell P3 a8 .z) (.tmp a8),?_⟩
  unfold S6
  rw [if_pos (by simpa using hc13)]
 ·refine .skip (.seq (.sr a8 (.p (.m0 j3.l0 (fun x=>x.Kind) U8 a8 (fun _=>a8) (.t a8) (.p (.x3 D0 (.t a8) (.p (.D4 (.t a8) (.i a8) (.nil (.o8 (.t a8) (fun hc18 => ?_) (fun hc18 => ?_)))))))))))
  ·refine .sr a8 (.p (.bS0 (α:=j7) a8 u7 a1g (.p (.bS0 (α:=p8) a8 P3 a9m (.n (.C8 u7 (.t a8) (.t a8) .z1 (.n (.C8 P3 (.t a8) (.t a8) .z (.p (.assign (.i a8) (.nil (.ret ?_))))))))))))
   refine⟨_,.r3 a8 (.cell u7 a8 .z1) (.cell P3 a8 .z) (.tmp a8),?_⟩
   unfold S6
   rw [if_neg (by simpa using hc13),if_pos hc18]
  ·refine .skip (.seq (.sr a8 (.p (.x4 p8.l1 a56 a8 (.t a8) (.p (.K0 (fun x=>x.l8) a4g (.t a8) .z3 (fun _=>a8) (.p (.len Tryz.underlying83 (.t a8) (.p (.geq (.t a8) (.i a8) (.nil (.o8 (.t a8) (fun hc24 => ?_) (fun hc24 => ?_)))))))))))))
   ·refine .sr a8 (.p (.bS0 (α:=j7) a8 u7 a1g (.p (.bS0 (α:=p8) a8 P3 a9m (.n (.C8 u7 (.t a8) (.t a8) .z1 (.n (.C8 P3 (.t a8) (.t a8) .z (.p (.assign (.i a8) (.nil (.ret ?_))))))))))))
    refine⟨_,.r3 a8 (.cell u7 a8 .z1) (.cell P3 a8 .z) (.tmp a8),?_⟩
    unfold S6
    rw [if_neg (by simpa using hc13),if_neg hc18,if_pos (by omega)]
   ·refine .skip (.seq (.a1o [[j1,j1,j1,j1,j1],[j1,j1,j1,j1,j1],[j1,j1,j1,j1,j0],[j1,j1,j1,j1,j0]] [[j1,j1,j1,j1,j1],[j1,j1,j1,j1,j1],[j1,j1,j1,j1,j1],[j1,j1,j1,j1,j1],[j1,j1,j1,j1,j1],[j1,j1,j1,j1,j1],[j1,j1,j1,j1,j1],[j1,j1,j1,j1,j1],[j1,j1,j1,j1,j0],[j1,j1,j1,j1,j0],[],[],[],[j1,j1,j1,j1,j0]] [] [] 3 (by kernel_rfl) 14 [[],[],[(29,1)],[],[(31,3)],[(28,0),(30,2),(32,4)],[(33,5)],[(27,6)],[(27,6)],[(27,6)],[],[(34,7)],[(9,10),(35,8)],[(36,9)]] [10,11,12] rfl (by kernel_rfl) rfl (by kernel_rfl) rfl (by decide) (by simp) (fun p hp=>by cases hp) (by kernel_rfl) rfl ?_))
    refine⟨_,fun H=>j6.I4 u7 (.t a8) (y3.app .z4) a8,?_⟩
    refine⟨_,fun H=>j6.x4 p8.l2 a97 a8 (.t a8) a8,?_⟩
    refine⟨_,fun H=>j6.K0 (fun x=>x.Tag) p3 (.t a8) (y3.app .z3) (fun _=>a8) a8,?_⟩
    refine⟨_,fun H=>j6.x3 A7 (.t a8) a8,?_⟩
    refine⟨_,fun H=>j6.m9 hG (a8J _) (.cons (.t a8) .nil) a8,?_⟩
    refine⟨_,fun H=>j6.m9 hG (a5J _ _ _) (.cons (.t a8) (.cons (.t a8) (.cons (.t a8) .nil))) a8,?_⟩
    refine⟨_,fun H=>j6.move (.t a8) a8,?_⟩
    refine⟨_,fun H=>j6.K1 (.t a8) a8,?_⟩
    refine⟨_,fun H=>j6.K2 (.t a8) a8,?_⟩
    refine⟨_,fun H=>j6.K3 (.t a8) a8,?_⟩
    refine .inl (.inl (.inl ?_))
    refine⟨_,fun H=>j6.assign (.t a8) a8,?_⟩
    refine⟨a8,?_⟩
    refine⟨⟨j2 [c8,c8,c8,c8,c8],a8⟩,fun Ys7 => ?_⟩
    refine A6.alloc p3 fun b9 => ?_
    refine⟨[_],_,a8,?_⟩
    refine⟨⟨j2 [c8,c8,c8,c8,c8],a8⟩,fun Ys7 => ?_⟩
    refine A6.C8 u7 (.t rfl) (.t rfl) (.s (y3.app (y3.app .z4))) ?_
    refine⟨[_],_,a8,?_⟩
    refine⟨⟨j2 [c8,c8,c8,c8,_],a8⟩,fun Ys7 => ?_⟩
    refine A6.C8 p3 (.t rfl) (.t rfl) .z ?_
    refine⟨[_],_,a8,?_⟩
    refine⟨⟨j2 [c8,c8,c8,c8,_],a8⟩,fun ws7 => ?_⟩
    refine⟨⟨j2 [c8,c8,c8,c8,_],a8⟩,fun _ => ?_⟩
    show F8 _ _ _ _ _ _ ((10,_)::(9,_)::(36,_)::(35,_)::(34,_)::(27,_)::(33,_)::(32,_)::(31,_)::(30,_)::(29,_)::(28,_)::_) _
    refine .nil (.seq (.sr a8 (.mv a8 (.p (.W8 (.t a8) (.i a8) (.nil (.o8 (.t a8) (fun hc38 => ?_) (fun hc38 => ?_))))))))
    ·refine .sr a8 (.p (.bS0 (α:=j7) a8 u7 a1g (.p (.bS0 (α:=p8) a8 P3 a9m (.mv a8 (.n (.C8 u7 (.t a8) (.t a8) .z2 (.n (.C8 P3 (.t a8) (.t a8) .z1 (.ag a8 (.nil (.ret ?_))))))))))))
     refine⟨_,.r3 a8 (.cell u7 a8 .z2) (.cell P3 a8 .z1) (.tmp a8),?_⟩
     unfold S6
     rw [if_neg (by simpa using hc13),if_neg hc18,if_neg (by omega),Q4 hc38]
    ·refine .skip (.seq (.a1o [[j1,j1,j1,j1,j1,j1],[j1,j1,j1,j1,j1,j1],[j1,j1,j1,j1,j1,j1],[j1,j1,j1,j1,j1,j1],[j1,j1,j1,j1,j0,j1],[j1,j1,j1,j1,j0,j1]] [[],[j1,j1,j1,j1,j1,j1],[j1,j1,j1,j1,j1,j1],[],[j1,j1,j1,j1,j1,j1],[j1,j1,j1,j1,j1,j1],[],[j1,j1,j1,j1,j0,j1],[j1,j1,j1,j1,j1,j1],[],[j1,j1,j1,j1,j0,j1],[]] [] [] 5 (by kernel_rfl) 12 [[],[],[(43,1)],[(42,0),(44,2)],[],[(46,4)],[(45,3),(47,5)],[],[],[(50,8),(48,6)],[],[(51,10),(49,7)]] [0,3,6,9,11] rfl (by kernel_rfl) rfl (by kernel_rfl) rfl (by decide) (by simp) (fun p hp=>by cases hp) (by kernel_rfl) rfl (.inl ?_)))
     refine⟨_,fun H=>j6.x4 p8.l1 a56 a8 (.t a8) a8,?_⟩
     refine⟨_,fun H=>j6.K0 (fun x=>x.l8) a4g (.t a8) (y3.app .z4) (fun _=>a8) a8,?_⟩
     refine .inl ?_
     refine⟨_,fun H=>j6.x3 A7 (.t a8) a8,?_⟩
     refine⟨_,fun H=>j6.G7 (α:=j3) A7 Tryz.underlying83 (.cons (.t a8) .nil) a8 (by decide) a8,?_⟩
     refine .inl ?_
     refine⟨_,fun H=>j6.I4 p3 (.t a8) (y3.app .z) a8,?_⟩
     refine⟨_,fun H=>j6.x4 p8.l1 a56 a8 (.t a8) a8,?_⟩
     refine .inl ?_
     refine⟨_,fun H=>j6.x4 p8.l2 a97 a8 (.t a8) a8,?_⟩
     refine .inl ?_
     refine⟨a8,?_⟩
     refine⟨⟨j2 [c8,c8,c8,c8,c8,c8],a8⟩,fun Ys10 => ?_⟩
     refine A6.buildSlice (α:=j3) A7 Tryz.underlying83 .nil rfl (by decide) fun b42 => ?_
     refine⟨[_],_,a8,?_⟩
     refine⟨⟨j2 [c8,c8,c8,c8,c8,c8],a8⟩,fun Ys10 => ?_⟩
     refine A6.append a8v (.inl ⟨_,Tryz.underlying83⟩) rfl .z (.v (.t rfl)) (by simp;omega) (by simp;omega) (fun w45 => ?_) rfl
     refine⟨[_],_,a8,?_⟩
     refine⟨⟨j2 [c8,c8,c8,c8,c8,c8],a8⟩,fun Ys10 => ?_⟩
     refine A6.append a8v (.inl ⟨_,Tryz.underlying83⟩) rfl .z (.v (.c rfl)) (by simp;omega) (by simp;omega) (fun w48 => ?_) rfl
     refine⟨[_],_,a8,?_⟩
     refine⟨⟨j2 [c8,c8,c8,c8,c8,c8],a8⟩,fun Ys10 => ?_⟩
     refine A6.y0 hC .z (A6.as 48 rfl .z (A6.U0 (fun y x => { x with l8:=y }) a4g (.t rfl) (.t rfl) (.s (y3.app (y3.app .z4))) (fun _ _=>rfl) ?_))
     refine⟨[_],_,a8,?_⟩
     refine⟨⟨j2 [c8,c8,c8,c8,_,c8],a8⟩,fun Ys10 => ?_⟩
     refine A6.U0 (fun y x => { x with Tag:=y }) p3 (.t rfl) (.t rfl) (.s (y3.app (y3.app .z4))) (fun _ _=>rfl) ?_
     refine⟨[_],_,a8,?_⟩
     refine⟨⟨j2 [c8,c8,c8,c8,_,c8],a8⟩,fun ws10 => ?_⟩
     refine⟨⟨j2 [c8,c8,c8,c8,_,c8],a8⟩,fun _ => ?_⟩
     show F8 _ _ _ _ _ _ ((51,_)::(50,_)::(49,_)::(48,_)::(47,_)::(46,_)::(45,_)::(44,_)::(43,_)::(42,_)::_) _
     refine .nil (.seq (.E7 [j1,j1,j0,j0,j1,j1,j1] (by kernel_rfl) 5 [[],[],[(52,0)],[(53,1)],[]] [2,3] a8 (by kernel_rfl) a8 (by kernel_rfl) (by decide) ?_))
     refine⟨_,fun H=>j6.I4 u7 (.t a8) (y3.app .z6) a8,?_⟩
     refine⟨_,fun H=>j6.I4 P3 (.t a8) (y3.app .z5) a8,?_⟩
     refine .inl (.inl ?_)
     refine⟨_,fun H=>j6.assign (.i a8) a8,?_⟩
     refine⟨⟨([],j2 [c8,c8,_,_,c8,c8,c8]),a8⟩,?_⟩
     refine A6.C8 u7 (.t rfl) (.t rfl) .z3 ?_
     refine⟨⟨([],j2 [c8,c8,_,_,c8,c8,c8]),a8⟩,?_⟩
     refine A6.C8 P3 (.t rfl) (.t rfl) .z2 ?_
     refine⟨⟨([],j2 [c8,c8,_,_,c8,c8,c8]),a8⟩,?_⟩
     show F8 _ _ _ _ _ _ ((8,_)::(53,_)::(52,_)::_) _
     refine .nil (.ret ?_)
     refine⟨_,.r3 a8 (.cell u7 a8 .z3) (.cell P3 a8 .z2) (.tmp a8),?_⟩
     unfold S6
     rw [if_neg (by simpa using hc13),if_neg hc18,if_neg (by omega),F7 (Decidable.not_not.1 hc38)];rfl
theorem c1p (a:C7) (d:Dis) (leaf:Tag) (r:Rq):u1 gl Tryz.prog 74 [.v a,.v d,.v leaf,.v r] (fun x=>x = .t3 (.v (a2K a d leaf r).1) (.v (a2K a d leaf r).2.1) (.v (a2K a d leaf r).2.2)):=by
 refine u1.intro Tryz.func74 rfl (by kernel_rfl) 41 rfl rfl _ rfl fun C hC hG=>(.sr rfl (.h (.box (.t rfl) fun b4 => .h (.box (.t rfl) fun b5 => .h (.box (.t rfl) fun b6 => .h (.box (.t rfl) fun b7 => .h (.alloc u7 fun b8 => .h (.alloc P8 fun b9=>(.p (.assign (.i rfl) (.nil (.seq (.sr rfl (.p (.I4 a3V (.t rfl) .z2 (.p (.m9 hG (b4W _) (.cons (.t rfl) .nil) (.p (.not (.t rfl) (.nil (.cond (.t rfl) (fun hc15 => ?_) (fun hc15 => ?_))))))))))))))))))))))
 ·refine .sr a8 (.p (.bS0 (α:=j7) a8 u7 a1g (.p (.bS0 (α:=p5) a8 P8 b6R (.n (.C8 u7 (.t a8) (.t a8) .z1 (.n (.C8 P8 (.t a8) (.t a8) .z (.p (.assign (.i a8) (.nil (.ret ?_))))))))))))
  refine⟨_,.r3 a8 (.cell u7 a8 .z1) (.cell P8 a8 .z) (.tmp a8),?_⟩
  unfold a2K
  rw [if_pos (by simpa using hc15)]
 ·refine .skip (.seq (.a1o [[j1,j1,j1,j1,j1,j1],[j1,j1,j1,j1,j1,j1],[j1,j1,j1,j1,j1,j0],[j1,j1,j1,j1,j1,j0]] [[j1,j1,j1,j1,j1,j1],[j1,j1,j1,j1,j1,j1],[j1,j1,j1,j1,j1,j1],[j1,j1,j1,j1,j1,j1],[j1,j1,j1,j1,j1,j1],[j1,j1,j1,j1,j1,j1],[j1,j1,j1,j1,j1,j1],[j1,j1,j1,j1,j1,j1],[j1,j1,j1,j1,j1,j1],[j1,j1,j1,j1,j1,j0],[j1,j1,j1,j1,j1,j0],[],[],[],[j1,j1,j1,j1,j1,j0]] [] [] 3 (by kernel_rfl) 15 [[],[],[(20,1)],[],[],[(22,3),(23,4)],[(19,0),(21,2),(24,5)],[(25,6)],[(18,7)],[(18,7)],[(18,7)],[],[(26,8)],[(11,11),(27,9)],[(28,10)]] [11,12,13] rfl (by kernel_rfl) rfl (by kernel_rfl) rfl (by decide) (by simp) (fun p hp=>by cases hp) (by kernel_rfl) rfl ?_))
  refine⟨_,fun H=>j6.I4 u7 (.t a8) (y3.app .z5) a8,?_⟩
  refine⟨_,fun H=>j6.x4 p8.l2 a97 a8 (.t a8) a8,?_⟩
  refine⟨_,fun H=>j6.K0 (fun x=>x.Tag) p3 (.t a8) (y3.app .z4) (fun _=>a8) a8,?_⟩
  refine⟨_,fun H=>j6.I4 p3 (.t a8) (y3.app .z3) a8,?_⟩
  refine⟨_,fun H=>j6.I4 a3V (.t a8) (y3.app .z2) a8,?_⟩
  refine⟨_,fun H=>j6.m9 hG (b3I _ _ (by simpa using ‹(!S9 r)=false›)) (.cons (.t a8) (.cons (.t a8) .nil)) a8,?_⟩
  refine⟨_,fun H=>j6.m9 hG (a5J _ _ _) (.cons (.t a8) (.cons (.t a8) (.cons (.t a8) .nil))) a8,?_⟩
  refine⟨_,fun H=>j6.move (.t a8) a8,?_⟩
  refine⟨_,fun H=>j6.K1 (.t a8) a8,?_⟩
  refine⟨_,fun H=>j6.K2 (.t a8) a8,?_⟩
  refine⟨_,fun H=>j6.K3 (.t a8) a8,?_⟩
  refine .inl (.inl (.inl ?_))
  refine⟨_,fun H=>j6.assign (.t a8) a8,?_⟩
  refine⟨a8,?_⟩
  refine⟨⟨j2 [c8,c8,c8,c8,c8,c8],a8⟩,fun Ys3 => ?_⟩
  refine A6.alloc p3 fun b11 => ?_
  refine⟨[_],_,a8,?_⟩
  refine⟨⟨j2 [c8,c8,c8,c8,c8,c8],a8⟩,fun Ys3 => ?_⟩
  refine A6.C8 u7 (.t rfl) (.t rfl) (.s (y3.app (y3.app .z5))) ?_
  refine⟨[_],_,a8,?_⟩
  refine⟨⟨j2 [c8,c8,c8,c8,c8,_],a8⟩,fun Ys3 => ?_⟩
  refine A6.C8 p3 (.t rfl) (.t rfl) .z ?_
  refine⟨[_],_,a8,?_⟩
  refine⟨⟨j2 [c8,c8,c8,c8,c8,_],a8⟩,fun ws3 => ?_⟩
  refine⟨⟨j2 [c8,c8,c8,c8,c8,_],a8⟩,fun _ => ?_⟩
  show F8 _ _ _ _ _ _ ((12,_)::(11,_)::(28,_)::(27,_)::(26,_)::(18,_)::(25,_)::(24,_)::(23,_)::(22,_)::(21,_)::(20,_)::(19,_)::_) _
  refine .nil (.seq (.sr a8 (.mv a8 (.p (.W8 (.t a8) (.i a8) (.nil (.o8 (.t a8) (fun hc30 => ?_) (fun hc30 => ?_))))))))
  ·refine .sr a8 (.p (.bS0 (α:=j7) a8 u7 a1g (.p (.bS0 (α:=p5) a8 P8 b6R (.mv a8 (.n (.C8 u7 (.t a8) (.t a8) .z2 (.n (.C8 P8 (.t a8) (.t a8) .z1 (.ag a8 (.nil (.ret ?_))))))))))))
   refine⟨_,.r3 a8 (.cell u7 a8 .z2) (.cell P8 a8 .z1) (.tmp a8),?_⟩
   unfold a2K
   rw [if_neg (by simpa using hc15),Q4 hc30]
  ·refine .skip (.seq (.E7 [j1,j0,j0,j1,j1,j1,j1] (by kernel_rfl) 10 [[],[],[(35,1)],[],[(37,3)],[],[(36,2),(38,4),(39,5)],[(34,0)],[(40,6)],[]] [7,8] a8 (by kernel_rfl) a8 (by kernel_rfl) (by decide) ?_))
   refine⟨_,fun H=>j6.I4 u7 (.t a8) (y3.app .z6) a8,?_⟩
   refine⟨_,fun H=>j6.x4 p8.l0 b4n a8 (.t a8) a8,?_⟩
   refine⟨_,fun H=>j6.K0 (fun x=>x.j8) P1 (.t a8) (y3.app .z5) (fun _=>a8) a8,?_⟩
   refine⟨_,fun H=>j6.x4 p8.l1 a56 a8 (.t a8) a8,?_⟩
   refine⟨_,fun H=>j6.K0 (fun x=>x.l8) a4g (.t a8) (y3.app .z5) (fun _=>a8) a8,?_⟩
   refine⟨_,fun H=>j6.I4 p3 (.t a8) (y3.app .z) a8,?_⟩
   refine⟨_,fun H=>j6.bS3 p5.l0 p5.l1 p5.l2 a8 P8 b6R (fun c0 c1 c2=>(⟨c0,c1,c2⟩:p5)) (fun _ _ _=>a8) a8 a8 a8 a8 (.t a8) (.t a8) (.t a8) a8,?_⟩
   refine .inl (.inl ?_)
   refine⟨_,fun H=>j6.assign (.i a8) a8,?_⟩
   refine⟨⟨([],j2 [c8,_,_,c8,c8,c8,c8]),a8⟩,?_⟩
   refine A6.C8 u7 (.t rfl) (.t rfl) .z2 ?_
   refine⟨⟨([],j2 [c8,_,_,c8,c8,c8,c8]),a8⟩,?_⟩
   refine A6.C8 P8 (.t rfl) (.t rfl) .z1 ?_
   refine⟨⟨([],j2 [c8,_,_,c8,c8,c8,c8]),a8⟩,?_⟩
   show F8 _ _ _ _ _ _ ((10,_)::(40,_)::(39,_)::(38,_)::(37,_)::(36,_)::(35,_)::(34,_)::_) _
   refine .nil (.ret ?_)
   refine⟨_,.r3 a8 (.cell u7 a8 .z2) (.cell P8 a8 .z1) (.tmp a8),?_⟩
   unfold a2K
   rw [if_neg (by simpa using hc15),F7 (Decidable.not_not.1 hc30)]
theorem b3N {p:Pass} {c:Cav} {b:Bool} (h:(decide ((64:Int)≤(p.l9.length:Int))||(c.M1&&decide (8≤a09 p.l9)))=b):a6s p c=b:=by
 rw [←h];unfold a6s;congr 1;exact decide_eq_decide.2 (by omega)
theorem c0H (a:C7) (p:Pass) (c:Cav) (hp:p.l9.length≤1000000):u1 gl Tryz.prog 138 [.v a,.v p,.v c] (fun r=>r = .t3 (.v (a4h a p c).1) (.v (a4h a p c).2.1) (.v (a4h a p c).2.2)):=by
 refine u1.intro Tryz.func138 rfl (by kernel_rfl) 59 rfl rfl _ rfl fun C hC hG=>(.sr rfl (.h (.box (.t rfl) fun b3 => .h (.box (.t rfl) fun b4 => .h (.box (.t rfl) fun b5 => .h (.alloc u7 fun b6 => .h (.alloc P6 fun b7 => .p (.assign (.i rfl) (.nil (.seq (.seq (.B0 hC .z2 (.Q5 5 rfl .z2 (.region rfl (.p (.x3 T7 (.t rfl) (.p (.m9 hG (a4P _) (.cons (.t rfl) .nil) (.p (.not (.t rfl) (.nil (.cond (.t rfl) (fun hc13 => ?_) (fun hc13 => ?_)))))))))))))))))))))))
 ·refine .sr a8 (.p (.bS0 (α:=j7) a8 u7 a1g (.p (.bS0 (α:=x6) a8 P6 a95 (.n (.C8 u7 (.t a8) (.t a8) .z1 (.n (.C8 P6 (.t a8) (.t a8) .z (.p (.assign (.i a8) (.nil (.ret ?_))))))))))))
  refine⟨_,.r3 a8 (.cell u7 a8 .z1) (.cell P6 a8 .z) (.tmp a8),?_⟩
  unfold a4h
  rw [if_pos (by simpa using hc13)]
 ·refine .skip (.seq (.sr a8 (.p (.x4 x6.l2 a8i a8 (.t a8) (.p (.K0 (fun x=>x.l9) a3f (.t a8) .z3 (fun _=>a8) (.p (.len Tryz.underlying24 (.t a8) (.p (.geq (.t a8) (.i a8) (.mv a8 (.go 20 a8 (.t a8) (fun hg21 => .m0 m7.l0 (fun x=>x.M1) a3Q a8 (fun _=>a8) (.t a8) a8) (.go 20 a8 (.t a8) (fun hg22 => .x3 ty4 (.q a8 hg22) a8) (.goU 20 a8 (.t a8) (fun hg23 => .move (.q a8 hg23) a8) (.gn 23 a8 a8 (fun hc24 hg24 => .x4 x6.l2 a8i a8 (.t a8) a8) (.gn 23 a8 a8 (fun hc25 hg25 => .K0 (fun x=>x.l9) a3f (.ou a8 (Bool.and_eq_true_iff.2 ⟨hc25,beq_iff_eq.2 hg25⟩)) .z3 (fun _=>a8) a8) (.gn 23 a8 a8 (fun hc26 hg26 => .m9 hG (a9M _ hp) (.cons (.ou a8 (Bool.and_eq_true_iff.2 ⟨hc26,beq_iff_eq.2 hg26⟩)) .nil) a8) (.gn 23 a8 a8 (fun hc27 hg27 => .geq (.ou a8 (Bool.and_eq_true_iff.2 ⟨hc27,beq_iff_eq.2 hg27⟩)) (.i a8) a8) (.go 20 a8 (.t a8) (fun hg28 => .u0 (.ou a8 (beq_iff_eq.2 hg28)) (fun hp=>(.ou a8 (Bool.and_eq_true_iff.2 ⟨(beq_iff_eq.2 hg28),beq_iff_eq.2 hp⟩))) a8) (.p (.E0 (.t a8) (fun hp=>(.q a8 hp)) (.nil ?_))))))))))))))))))))))
  refine .cond (.t a8) (fun hc29 => ?_) (fun hc29 => ?_)
  ·refine .sr a8 (.p (.bS0 (α:=j7) a8 u7 a1g (.p (.bS0 (α:=x6) a8 P6 a95 (.n (.C8 u7 (.t a8) (.t a8) .z1 (.n (.C8 P6 (.t a8) (.t a8) .z (.p (.assign (.i a8) (.nil (.ret ?_))))))))))))
   refine⟨_,.r3 a8 (.cell u7 a8 .z1) (.cell P6 a8 .z) (.tmp a8),?_⟩
   unfold a4h
   rw [if_neg (by simpa using hc13),if_pos (b3N hc29)]
  ·refine .skip (.seq (.a1o [[j1,j1,j1,j1,j1],[j1,j1,j1,j1,j1],[j1,j1,j1,j1,j0],[j1,j1,j1,j1,j0]] [[j1,j1,j1,j1,j1],[j1,j1,j1,j1,j1],[j1,j1,j1,j1,j1],[j1,j1,j1,j1,j1],[j1,j1,j1,j1,j1],[j1,j1,j1,j1,j1],[j1,j1,j1,j1,j1],[j1,j1,j1,j1,j1],[j1,j1,j1,j1,j0],[j1,j1,j1,j1,j0],[],[],[],[j1,j1,j1,j1,j0]] [] [] 3 (by kernel_rfl) 14 [[],[],[(34,1)],[],[(36,3)],[(33,0),(35,2),(37,4)],[(38,5)],[(32,6)],[(32,6)],[(32,6)],[],[(39,7)],[(9,10),(40,8)],[(41,9)]] [10,11,12] rfl (by kernel_rfl) rfl (by kernel_rfl) rfl (by decide) (by simp) (fun p hp=>by cases hp) (by kernel_rfl) rfl ?_))
   refine⟨_,fun H=>j6.I4 u7 (.t a8) (y3.app .z4) a8,?_⟩
   refine⟨_,fun H=>j6.x4 x6.l3 a5E a8 (.t a8) a8,?_⟩
   refine⟨_,fun H=>j6.K0 (fun x=>x.Tag) p3 (.t a8) (y3.app .z3) (fun _=>a8) a8,?_⟩
   refine⟨_,fun H=>j6.x3 T7 (.t a8) a8,?_⟩
   refine⟨_,fun H=>j6.m9 hG (b5X _) (.cons (.t a8) .nil) a8,?_⟩
   refine⟨_,fun H=>j6.m9 hG (b7T _ _ _) (.cons (.t a8) (.cons (.t a8) (.cons (.t a8) .nil))) a8,?_⟩
   refine⟨_,fun H=>j6.move (.t a8) a8,?_⟩
   refine⟨_,fun H=>j6.K1 (.t a8) a8,?_⟩
   refine⟨_,fun H=>j6.K2 (.t a8) a8,?_⟩
   refine⟨_,fun H=>j6.K3 (.t a8) a8,?_⟩
   refine .inl (.inl (.inl ?_))
   refine⟨_,fun H=>j6.assign (.t a8) a8,?_⟩
   refine⟨a8,?_⟩
   refine⟨⟨j2 [c8,c8,c8,c8,c8],a8⟩,fun Ys5 => ?_⟩
   refine A6.alloc p3 fun b9 => ?_
   refine⟨[_],_,a8,?_⟩
   refine⟨⟨j2 [c8,c8,c8,c8,c8],a8⟩,fun Ys5 => ?_⟩
   refine A6.C8 u7 (.t rfl) (.t rfl) (.s (y3.app (y3.app .z4))) ?_
   refine⟨[_],_,a8,?_⟩
   refine⟨⟨j2 [c8,c8,c8,c8,_],a8⟩,fun Ys5 => ?_⟩
   refine A6.C8 p3 (.t rfl) (.t rfl) .z ?_
   refine⟨[_],_,a8,?_⟩
   refine⟨⟨j2 [c8,c8,c8,c8,_],a8⟩,fun ws5 => ?_⟩
   refine⟨⟨j2 [c8,c8,c8,c8,_],a8⟩,fun _ => ?_⟩
   show F8 _ _ _ _ _ _ ((10,_)::(9,_)::(41,_)::(40,_)::(39,_)::(32,_)::(38,_)::(37,_)::(36,_)::(35,_)::(34,_)::(33,_)::_) _
   refine .nil (.seq (.sr a8 (.mv a8 (.p (.W8 (.t a8) (.i a8) (.nil (.o8 (.t a8) (fun hc43 => ?_) (fun hc43 => ?_))))))))
   ·refine .sr a8 (.p (.bS0 (α:=j7) a8 u7 a1g (.p (.bS0 (α:=x6) a8 P6 a95 (.mv a8 (.n (.C8 u7 (.t a8) (.t a8) .z2 (.n (.C8 P6 (.t a8) (.t a8) .z1 (.ag a8 (.nil (.ret ?_))))))))))))
    refine⟨_,.r3 a8 (.cell u7 a8 .z2) (.cell P6 a8 .z1) (.tmp a8),?_⟩
    unfold a4h
    rw [if_neg (by simpa using hc13),if_neg (by rw [b3N hc29];decide),Q4 hc43]
   ·refine .skip (.seq (.a1o [[j1,j1,j1,j1,j1,j1],[j1,j1,j1,j1,j1,j1],[j1,j1,j1,j1,j1,j1],[j1,j1,j1,j1,j1,j1],[j1,j1,j1,j1,j0,j1],[j1,j1,j1,j1,j0,j1]] [[],[j1,j1,j1,j1,j1,j1],[j1,j1,j1,j1,j1,j1],[],[j1,j1,j1,j1,j1,j1],[j1,j1,j1,j1,j1,j1],[],[j1,j1,j1,j1,j0,j1],[j1,j1,j1,j1,j1,j1],[],[j1,j1,j1,j1,j0,j1],[]] [] [] 5 (by kernel_rfl) 12 [[],[],[(48,1)],[(47,0),(49,2)],[],[(51,4)],[(50,3),(52,5)],[],[],[(55,8),(53,6)],[],[(56,10),(54,7)]] [0,3,6,9,11] rfl (by kernel_rfl) rfl (by kernel_rfl) rfl (by decide) (by simp) (fun p hp=>by cases hp) (by kernel_rfl) rfl (.inl ?_)))
    refine⟨_,fun H=>j6.x4 x6.l2 a8i a8 (.t a8) a8,?_⟩
    refine⟨_,fun H=>j6.K0 (fun x=>x.l9) a3f (.t a8) (y3.app .z4) (fun _=>a8) a8,?_⟩
    refine .inl ?_
    refine⟨_,fun H=>j6.x3 T7 (.t a8) a8,?_⟩
    refine⟨_,fun H=>j6.G7 (α:=m7) T7 Tryz.underlying24 (.cons (.t a8) .nil) a8 (by decide) a8,?_⟩
    refine .inl ?_
    refine⟨_,fun H=>j6.I4 p3 (.t a8) (y3.app .z) a8,?_⟩
    refine⟨_,fun H=>j6.x4 x6.l2 a8i a8 (.t a8) a8,?_⟩
    refine .inl ?_
    refine⟨_,fun H=>j6.x4 x6.l3 a5E a8 (.t a8) a8,?_⟩
    refine .inl ?_
    refine⟨a8,?_⟩
    refine⟨⟨j2 [c8,c8,c8,c8,c8,c8],a8⟩,fun Ys8 => ?_⟩
    refine A6.buildSlice (α:=m7) T7 Tryz.underlying24 .nil rfl (by decide) fun b47 => ?_
    refine⟨[_],_,a8,?_⟩
    refine⟨⟨j2 [c8,c8,c8,c8,c8,c8],a8⟩,fun Ys8 => ?_⟩
    refine A6.append c2b (.inl ⟨_,Tryz.underlying24⟩) rfl .z (.v (.t rfl)) (by simp;omega) (by simp;omega) (fun w50 => ?_) rfl
    refine⟨[_],_,a8,?_⟩
    refine⟨⟨j2 [c8,c8,c8,c8,c8,c8],a8⟩,fun Ys8 => ?_⟩
    refine A6.append c2b (.inl ⟨_,Tryz.underlying24⟩) rfl .z (.v (.c rfl)) (by simp;omega) (by simp;omega) (fun w53 => ?_) rfl
    refine⟨[_],_,a8,?_⟩
    refine⟨⟨j2 [c8,c8,c8,c8,c8,c8],a8⟩,fun Ys8 => ?_⟩
    refine A6.y0 hC .z (A6.as 53 rfl .z (A6.U0 (fun y x => { x with l9:=y }) a3f (.t rfl) (.t rfl) (.s (y3.app (y3.app .z4))) (fun _ _=>rfl) ?_))
    refine⟨[_],_,a8,?_⟩
    refine⟨⟨j2 [c8,c8,c8,c8,_,c8],a8⟩,fun Ys8 => ?_⟩
    refine A6.U0 (fun y x => { x with Tag:=y }) p3 (.t rfl) (.t rfl) (.s (y3.app (y3.app .z4))) (fun _ _=>rfl) ?_
    refine⟨[_],_,a8,?_⟩
    refine⟨⟨j2 [c8,c8,c8,c8,_,c8],a8⟩,fun ws8 => ?_⟩
    refine⟨⟨j2 [c8,c8,c8,c8,_,c8],a8⟩,fun _ => ?_⟩
    show F8 _ _ _ _ _ _ ((56,_)::(55,_)::(54,_)::(53,_)::(52,_)::(51,_)::(50,_)::(49,_)::(48,_)::(47,_)::_) _
    refine .nil (.seq (.E7 [j1,j1,j0,j0,j1,j1,j1] (by kernel_rfl) 5 [[],[],[(57,0)],[(58,1)],[]] [2,3] a8 (by kernel_rfl) a8 (by kernel_rfl) (by decide) ?_))
    refine⟨_,fun H=>j6.I4 u7 (.t a8) (y3.app .z6) a8,?_⟩
    refine⟨_,fun H=>j6.I4 P6 (.t a8) (y3.app .z5) a8,?_⟩
    refine .inl (.inl ?_)
    refine⟨_,fun H=>j6.assign (.i a8) a8,?_⟩
    refine⟨⟨([],j2 [c8,c8,_,_,c8,c8,c8]),a8⟩,?_⟩
    refine A6.C8 u7 (.t rfl) (.t rfl) .z3 ?_
    refine⟨⟨([],j2 [c8,c8,_,_,c8,c8,c8]),a8⟩,?_⟩
    refine A6.C8 P6 (.t rfl) (.t rfl) .z2 ?_
    refine⟨⟨([],j2 [c8,c8,_,_,c8,c8,c8]),a8⟩,?_⟩
    show F8 _ _ _ _ _ _ ((8,_)::(58,_)::(57,_)::_) _
    refine .nil (.ret ?_)
    refine⟨_,.r3 a8 (.cell u7 a8 .z3) (.cell P6 a8 .z2) (.tmp a8),?_⟩
    unfold a4h
    rw [if_neg (by simpa using hc13),if_neg (by rw [b3N hc29];decide),F7 (Decidable.not_not.1 hc43)];rfl
theorem b7V (a:C7) (p:Pass) (c:Cav):(a4h a p c).2.1.l9.length≤p.l9.length+1:=by
 unfold a4h a0S
 split
 ·exact Nat.zero_le _
 ·split
  ·exact Nat.zero_le _
  ·split
   ·simp
   ·exact Nat.zero_le _
theorem a7w {a:C7} {p:Pass} {l:List Pred} {i:Nat} (h:i < l.length):a1d a p (l.drop i)=a0S (a4h a p ⟨false,l[i],0,[],[]⟩) fun b q=>a1d b q (l.drop (i+1)):=by
 rw [List.drop_eq_getElem_cons h];rfl
theorem b0J {a:C7} {k:Tag} {m:List UInt8} {x:o9} (h:x∈(H5 a k m).1.x7):x∈a.x7:=by
 unfold H5 at h
 split at h
 ·cases h
 ·split at h
  ·exact h
  ·split at h
   ·cases h
   ·exact h
theorem b2g (a:C7) (p:Pass) (l:List Pred) (hp:p.l9.length+l.length≤1000000):u1 gl Tryz.prog 79 [.v a,.v p,.v l] (fun r=>r = .t3 (.v (a1d a p l).1) (.v (a1d a p l).2.1) (.v (a1d a p l).2.2)):=by
 refine u1.intro Tryz.func79 rfl (by kernel_rfl) 40 rfl rfl _ rfl fun C hC hG=>(.sr rfl (.h (.box (.t rfl) fun b3 => .h (.box (.t rfl) fun b4 => .h (.alloc u7 fun b6 => .h (.alloc P6 fun b7 => .p (.assign (.i rfl) (.nil (.seq (.Y4 2 rfl fun hl2=>(.region rfl (.p (.assign (.i rfl) (.nil (.seq (.sr rfl (.p (.assign (.i rfl) (.nil ?_)))))))))))))))))))
 refine .block (.F4 (α:=Nat×C7×Pass×Int) [(2,_),(3,_),(4,_),(6,_),(7,_)] (fun x R=>(9,.v x.2.2.2)::(10,.v (x.1:Int))::R) (fun x => [(true,.ob (ptr b7 0) (default:Pass)),(true,.ob (ptr b6 0) (default:C7)),(true,.ob (ptr b4 0) x.2.2.1),(true,.ob (ptr b3 0) x.2.1)]) (fun x=>x.1≤l.length∧(x.2.2.2=0→a1d a p l=a1d x.2.1 x.2.2.1 (l.drop x.1))∧(x.2.2.2≠0→a1d a p l=(default,default,x.2.2.2))∧x.2.2.1.l9.length≤p.l9.length+x.1) (fun x=>l.length - x.1) ((0,a,p,0)) (.c2 a8 a8 (.c2 a8 a8 (.cons a8 (.nil _)))) ?_ (.c2 a8 a8 (.c2 a8 a8 (.c2 a8 a8 (.cons a8 (.nil _))))) (a8) fun x hF => ?_)
 ·exact⟨Nat.zero_le _,fun _=>a8,fun h=>absurd a8 h,Nat.le_refl _⟩
 obtain⟨i,b,q,e⟩:=x
 obtain⟨h1,h2,h3,h4⟩:=hF
 dsimp only at h1 h2 h3 h4 ⊢
 refine .seq (.sr a8 (.mv a8 (.mv a8 (.p (.len Tryz.underlying83 (.t a8) (.p (.lss (.t a8) (.t a8) (.mv a8 (.go 15 a8 (.t a8) (fun hg16 => .move (.t a8) a8) (.go 15 a8 (.t a8) (fun hg17 => .D4 (.q a8 hg17) (.i a8) a8) (.p (.u0 (.t a8) (fun hp=>(.q a8 hp)) (.nil (.cond (.t a8) (fun hc18 => ?_) (fun hc18 => ?_)))))))))))))))
 ·refine .skip (.seq (.block ?_))
  have hlt:i < l.length∧e=0:=by simpa using hc18
  refine .a1o [[j1,j1,j1,j1],[j1,j1,j1,j0],[j1,j1,j0,j0]] [[j1,j1,j1,j1],[j1,j1,j1,j1],[j1,j1,j1,j1],[j1,j1,j1,j1],[j1,j1,j1,j1],[j1,j1,j1,j1],[j1,j1,j1,j1],[j1,j1,j1,j1],[j1,j1,j1,j1],[j1,j1,j1,j1],[j1,j1,j1,j0],[j1,j1,j0,j0],[],[],[j1,j1,j0,j0]] [] [] 2 (by kernel_rfl) 15 [[],[],[],[],[(24,2),(25,3)],[(26,4)],[(27,5)],[(22,0),(23,1),(28,6)],[(29,7)],[(21,8)],[(21,8)],[(21,8)],[(30,9)],[(31,10)],[(32,11)]] [12,13] rfl (by kernel_rfl) rfl (by kernel_rfl) rfl (by decide) (by simp) (fun p hp=>by cases hp) (by kernel_rfl) rfl ?_
  refine⟨_,fun H=>j6.I4 u7 (.t a8) (y3.app .z3) a8,?_⟩
  refine⟨_,fun H=>j6.I4 P6 (.t a8) (y3.app .z2) a8,?_⟩
  refine⟨_,fun H=>j6.move (.t a8) a8,?_⟩
  refine⟨_,fun H=>j6.move (.t a8) a8,?_⟩
  refine⟨_,fun H=>j6.idx A7 Tryz.underlying83 (.t a8) (.t a8) (by omega) (by omega) a8,?_⟩
  refine⟨_,fun H=>j6.x3 A7 (.t a8) a8,?_⟩
  refine⟨_,fun H=>j6.bS1 m7.l1 a8 T7 c1P (fun c1=>(⟨false,c1,0,[],[]⟩:m7)) (fun _=>a8) a8 a8 (.t a8) a8,?_⟩
  refine⟨_,fun H=>j6.m9 hG (c0H _ _ _ (by omega)) (.cons (.t a8) (.cons (.t a8) (.cons (.t a8) .nil))) a8,?_⟩
  refine⟨_,fun H=>j6.move (.t a8) a8,?_⟩
  refine⟨_,fun H=>j6.K1 (.t a8) a8,?_⟩
  refine⟨_,fun H=>j6.K2 (.t a8) a8,?_⟩
  refine⟨_,fun H=>j6.K3 (.t a8) a8,?_⟩
  refine .inl (.inl ?_)
  refine⟨_,fun H=>j6.assign (.t a8) a8,?_⟩
  refine⟨a8,?_⟩
  refine⟨⟨j2 [c8,c8,c8,c8],a8⟩,fun Ys5 => ?_⟩
  refine A6.C8 u7 (.t rfl) (.t rfl) (y3.app (y3.app .z3)) ?_
  refine⟨[],_,a8,?_⟩
  refine⟨⟨j2 [c8,c8,c8,_],a8⟩,fun Ys5 => ?_⟩
  refine A6.C8 P6 (.t rfl) (.t rfl) (y3.app (y3.app .z2)) ?_
  refine⟨[],_,a8,?_⟩
  refine⟨⟨j2 [c8,c8,_,_],a8⟩,fun ws5 => ?_⟩
  refine⟨⟨j2 [c8,c8,_,_],a8⟩,fun _ => ?_⟩
  show F8 _ _ _ _ _ _ ((9,_)::(32,_)::(31,_)::(30,_)::(21,_)::(29,_)::(28,_)::(27,_)::(26,_)::(25,_)::(24,_)::(23,_)::(22,_)::_) _
  refine .nil (.region a8 (.mv a8 (.p (.add (.t a8) (.i a8) (by omega) (by omega) (.ag a8 (.nil ?_))))))
  refine⟨(i+1,(a4h b q ⟨false,l[i],0,[],[]⟩).1,(a4h b q ⟨false,l[i],0,[],[]⟩).2.1,(a4h b q ⟨false,l[i],0,[],[]⟩).2.2),.c2 rfl rfl (.c2 rfl rfl (.c2 rfl rfl (.cons rfl (.nil _)))),rfl,?_,by dsimp only;omega⟩
  exact⟨by dsimp only;omega,fun h=>by dsimp only at h ⊢;rw [h2 hlt.2,a7w hlt.1,F7 h],fun h=>by dsimp only at h ⊢;rw [h2 hlt.2,a7w hlt.1,Q4 h],by have:=b7V b q ⟨false,l[i],0,[],[]⟩;dsimp only;omega⟩
 ·refine .exit (.seq (.sr a8 (.mv a8 (.p (.W8 (.t a8) (.i a8) (.nil (.o8 (.t a8) (fun hc34 => ?_) (fun hc34 => ?_))))))))
  ·refine .sr a8 (.p (.bS0 (α:=j7) a8 u7 a1g (.p (.bS0 (α:=x6) a8 P6 a95 (.mv a8 (.n (.C8 u7 (.t a8) (.t a8) .z1 (.n (.C8 P6 (.t a8) (.t a8) .z (.ag a8 (.nil (.ret ?_))))))))))))
   refine⟨_,.r3 a8 (.cell u7 a8 .z1) (.cell P6 a8 .z) (.tmp a8),?_⟩
   rw [h3 hc34]
  ·refine .skip (.seq (.E7 [j0,j0,j1,j1] (by kernel_rfl) 5 [[],[],[(38,0)],[(39,1)],[]] [2,3] a8 (by kernel_rfl) a8 (by kernel_rfl) (by decide) ?_))
   refine⟨_,fun H=>j6.I4 u7 (.t a8) (y3.app .z3) a8,?_⟩
   refine⟨_,fun H=>j6.I4 P6 (.t a8) (y3.app .z2) a8,?_⟩
   refine .inl (.inl ?_)
   refine⟨_,fun H=>j6.assign (.i a8) a8,?_⟩
   refine⟨⟨([],j2 [_,_,c8,c8]),a8⟩,?_⟩
   refine A6.C8 u7 (.t rfl) (.t rfl) .z1 ?_
   refine⟨⟨([],j2 [_,_,c8,c8]),a8⟩,?_⟩
   refine A6.C8 P6 (.t rfl) (.t rfl) .z ?_
   refine⟨⟨([],j2 [_,_,c8,c8]),a8⟩,?_⟩
   show F8 _ _ _ _ _ _ ((8,_)::(39,_)::(38,_)::_) _
   refine .nil (.ret ?_)
   refine⟨_,.r3 a8 (.cell u7 a8 .z1) (.cell P6 a8 .z) (.tmp a8),?_⟩
   obtain rfl:e=0:=Decidable.not_not.1 hc34
   have hx:l.length≤i:=by simpa using hc18
   rw [h2 rfl,List.drop_of_length_le hx];rfl
theorem c2B (a:C7) (p:Pass) (b:c1m) (hp:p.l9.length≤1000000) (hb:∀ x∈a.x7,x.X3.length≤1000000) (ht:b.j8.length≤1000000):u1 gl Tryz.prog 81 [.v a,.v p,.v b] (fun r=>r = .t3 (.v (b2b a p b).1) (.v (b2b a p b).2.1) (.v (b2b a p b).2.2)):=by
 refine u1.intro Tryz.func81 rfl (by kernel_rfl) 54 rfl rfl _ rfl fun C hC hG=>(.sr rfl (.h (.box (.t rfl) fun b3 => .h (.box (.t rfl) fun b4 => .h (.box (.t rfl) fun b5 => .h (.alloc u7 fun b6 => .h (.alloc P6 fun b7 => .p (.assign (.i rfl) (.nil (.seq (.B0 hC .z2 (.Q5 5 rfl .z2 (.a1o [[j1,j1,j1,j1,j1],[j1,j1,j1,j1,j1],[j1,j1,j1,j1,j0],[j1,j1,j1,j1,j0]] [[j1,j1,j1,j1,j1],[j1,j1,j1,j1,j1],[j1,j1,j1,j1,j1],[j1,j1,j1,j1,j1],[j1,j1,j1,j1,j1],[j1,j1,j1,j1,j1],[j1,j1,j1,j1,j1],[j1,j1,j1,j1,j1],[j1,j1,j1,j1,j1],[j1,j1,j1,j1,j0],[j1,j1,j1,j1,j0],[],[],[],[j1,j1,j1,j1,j0]] [] [] 3 (by kernel_rfl) 15 [[],[],[(14,1)],[],[(16,3)],[(17,4)],[(13,0),(15,2),(18,5)],[(19,6)],[(12,7)],[(12,7)],[(12,7)],[],[(20,8)],[(9,11),(21,9)],[(22,10)]] [11,12,13] rfl (by kernel_rfl) rfl (by kernel_rfl) rfl (by decide) (by simp) (fun p hp=>by cases hp) (by kernel_rfl) rfl ?_)))))))))))))
 refine⟨_,fun H=>j6.I4 u7 (.t a8) (y3.app .z4) a8,?_⟩
 refine⟨_,fun H=>j6.x4 x6.l3 a5E a8 (.t a8) a8,?_⟩
 refine⟨_,fun H=>j6.K0 (fun x=>x.Tag) p3 (.t a8) (y3.app .z3) (fun _=>a8) a8,?_⟩
 refine⟨_,fun H=>j6.m0 C0.l2 (fun x=>x.j8) a98 a8 (fun _=>a8) (.t a8) a8,?_⟩
 refine⟨_,fun H=>j6.x3 P1 (.t a8) a8,?_⟩
 refine⟨_,fun H=>j6.m9 hG (b3G _ ht) (.cons (.t a8) .nil) a8,?_⟩
 refine⟨_,fun H=>j6.m9 hG (a5J _ _ _) (.cons (.t a8) (.cons (.t a8) (.cons (.t a8) .nil))) a8,?_⟩
 refine⟨_,fun H=>j6.move (.t a8) a8,?_⟩
 refine⟨_,fun H=>j6.K1 (.t a8) a8,?_⟩
 refine⟨_,fun H=>j6.K2 (.t a8) a8,?_⟩
 refine⟨_,fun H=>j6.K3 (.t a8) a8,?_⟩
 refine .inl (.inl (.inl ?_))
 refine⟨_,fun H=>j6.assign (.t a8) a8,?_⟩
 refine⟨a8,?_⟩
 refine⟨⟨j2 [c8,c8,c8,c8,c8],a8⟩,fun Ys1 => ?_⟩
 refine A6.alloc p3 fun b9 => ?_
 refine⟨[_],_,a8,?_⟩
 refine⟨⟨j2 [c8,c8,c8,c8,c8],a8⟩,fun Ys1 => ?_⟩
 refine A6.C8 u7 (.t rfl) (.t rfl) (.s (y3.app (y3.app .z4))) ?_
 refine⟨[_],_,a8,?_⟩
 refine⟨⟨j2 [c8,c8,c8,c8,_],a8⟩,fun Ys1 => ?_⟩
 refine A6.C8 p3 (.t rfl) (.t rfl) .z ?_
 refine⟨[_],_,a8,?_⟩
 refine⟨⟨j2 [c8,c8,c8,c8,_],a8⟩,fun ws1 => ?_⟩
 refine⟨⟨j2 [c8,c8,c8,c8,_],a8⟩,fun _ => ?_⟩
 show F8 _ _ _ _ _ _ ((10,_)::(9,_)::(22,_)::(21,_)::(20,_)::(12,_)::(19,_)::(18,_)::(17,_)::(16,_)::(15,_)::(14,_)::(13,_)::_) _
 refine .nil (.seq (.sr a8 (.mv a8 (.p (.W8 (.t a8) (.i a8) (.nil (.o8 (.t a8) (fun hc24 => ?_) (fun hc24 => ?_))))))))
 ·refine .sr a8 (.p (.bS0 (α:=j7) a8 u7 a1g (.p (.bS0 (α:=x6) a8 P6 a95 (.mv a8 (.n (.C8 u7 (.t a8) (.t a8) .z2 (.n (.C8 P6 (.t a8) (.t a8) .z1 (.ag a8 (.nil (.ret ?_))))))))))))
  refine⟨_,.r3 a8 (.cell u7 a8 .z2) (.cell P6 a8 .z1) (.tmp a8),?_⟩
  unfold b2b
  rw [Q4 (r:=H5 a p.Tag (D1 b.j8)) hc24]
 ·refine .skip (.seq ?_)
  have hb1:∀ x∈(H5 a p.Tag (D1 b.j8)).1.x7,x.X3.length≤1000000:=fun x hx=>hb x (b0J hx)
  refine .a1o [[j1,j1,j1,j1,j1,j1],[j1,j1,j1,j1,j1,j0]] [[j1,j1,j1,j1,j1,j1],[j1,j1,j1,j1,j1,j1],[j1,j1,j1,j1,j1,j1],[j1,j1,j1,j1,j1,j1],[j1,j1,j1,j1,j1,j1],[j1,j1,j1,j1,j1,j1],[j1,j1,j1,j1,j1,j1],[j1,j1,j1,j1,j1,j0],[j1,j1,j1,j1,j1,j0],[],[j1,j1,j1,j1,j1,j0],[j1,j1,j1,j1,j1,j0]] [] [] 1 (by kernel_rfl) 12 [[],[],[],[(31,2)],[(29,0),(30,1),(32,3)],[(33,4)],[(28,5)],[(28,5)],[(28,5)],[(34,6)],[(35,7)],[(36,8)]] [9] rfl (by kernel_rfl) rfl (by kernel_rfl) rfl (by decide) (by simp) (fun p hp=>by cases hp) (by kernel_rfl) rfl ?_
  refine⟨_,fun H=>j6.I4 u7 (.t a8) (y3.app .z5) a8,?_⟩
  refine⟨_,fun H=>j6.I4 p3 (.t a8) (y3.app .z) a8,?_⟩
  refine⟨_,fun H=>j6.m0 C0.l1 (fun x=>x.Key) b9a a8 (fun _=>a8) (.t a8) a8,?_⟩
  refine⟨_,fun H=>j6.P5 (by decide) O7 (.t a8) a8,?_⟩
  refine⟨_,fun H=>j6.m9 hG (b4R _ _ _ _ hb1) (.cons (.t a8) (.cons (.t a8) (.cons (.i a8) (.cons (.t a8) .nil)))) a8,?_⟩
  refine⟨_,fun H=>j6.move (.t a8) a8,?_⟩
  refine⟨_,fun H=>j6.K1 (.t a8) a8,?_⟩
  refine⟨_,fun H=>j6.K2 (.t a8) a8,?_⟩
  refine⟨_,fun H=>j6.K3 (.t a8) a8,?_⟩
  refine .inl ?_
  refine⟨_,fun H=>j6.assign (.t a8) a8,?_⟩
  refine⟨_,fun H=>j6.assign (.t a8) a8,?_⟩
  refine⟨a8,?_⟩
  refine⟨⟨j2 [c8,c8,c8,c8,c8,c8],a8⟩,fun Ys4 => ?_⟩
  refine A6.C8 u7 (.t rfl) (.t rfl) (y3.app (y3.app .z5)) ?_
  refine⟨[],_,a8,?_⟩
  refine⟨⟨j2 [c8,c8,c8,c8,c8,_],a8⟩,fun ws4 => ?_⟩
  refine⟨⟨j2 [c8,c8,c8,c8,c8,_],a8⟩,fun _ => ?_⟩
  show F8 _ _ _ _ _ _ ((10,_)::(11,_)::(36,_)::(35,_)::(34,_)::(28,_)::(33,_)::(32,_)::(31,_)::(30,_)::(29,_)::_) _
  refine .nil (.seq (.sr a8 (.mv a8 (.p (.W8 (.t a8) (.i a8) (.nil (.o8 (.t a8) (fun hc38 => ?_) (fun hc38 => ?_))))))))
  ·refine .sr a8 (.p (.bS0 (α:=j7) a8 u7 a1g (.p (.bS0 (α:=x6) a8 P6 a95 (.mv a8 (.n (.C8 u7 (.t a8) (.t a8) .z2 (.n (.C8 P6 (.t a8) (.t a8) .z1 (.ag a8 (.nil (.ret ?_))))))))))))
   refine⟨_,.r3 a8 (.cell u7 a8 .z2) (.cell P6 a8 .z1) (.tmp a8),?_⟩
   unfold b2b
   rw [F7 (r:=H5 a p.Tag (D1 b.j8)) (Decidable.not_not.1 hc24),Q4 hc38]
  ·refine .skip (.sr a8 (.p (.I4 u7 (.t a8) .z5 (.p (.I4 P6 (.t a8) .z4 (.p (.m0 C0.l0 (fun x=>x.E8) b8Z a8 (fun _=>a8) (.t a8) (.p (.x3 D0 (.t a8) (.p (.m0 C0.l2 (fun x=>x.j8) a98 a8 (fun _=>a8) (.t a8) (.p (.x3 P1 (.t a8) (.mv a8 (.p (.bS4 m7.l0 m7.l2 m7.l3 m7.l4 a8 T7 c1P (fun c0 c2 c3 c4=>(⟨c0,default,c2,c3,c4⟩:m7)) (fun _ _ _ _=>a8) a8 a8 a8 a8 a8 .b (.t a8) (.t a8) (.t a8) (.p (.m9 hG (c0H _ _ _ hp) (.cons (.t a8) (.cons (.t a8) (.cons (.t a8) .nil))) (.p (.K1 (.t a8) (.p (.K2 (.t a8) (.p (.K3 (.t a8) (.n (.C8 u7 (.t a8) (.t a8) .z2 (.n (.C8 P6 (.t a8) (.t a8) .z1 (.ag a8 (.nil (.ret ?_)))))))))))))))))))))))))))))))
   refine⟨_,.r3 a8 (.cell u7 a8 .z2) (.cell P6 a8 .z1) (.tmp a8),?_⟩
   unfold b2b
   rw [F7 (r:=H5 a p.Tag (D1 b.j8)) (Decidable.not_not.1 hc24),F7 (Decidable.not_not.1 hc38)]
structure Made (a:C7) (n:Nat) (k:Tag) (m:List UInt8) (b:C7) (t:Tag):Prop where
 mac:H5 a k m=(b,t,0)
 again:H5 b k m=(b,t,0)
 look:m8 b k m=(t,true)
 len:b.G3.length≤a.G3.length+1
 c3N:a.G3.length≤b.G3.length
 old:∀ i (h:i < a.G3.length),m8 b a.G3[i].Key a.G3[i].Message=(a.G3[i].Tag,true)
 ok:H6 b (n+1)
theorem H6.b7W {a:C7} {n:Nat} (h:H6 a n) (i:Nat) (hi:i < a.G3.length):m8 a a.G3[i].Key a.G3[i].Message=(a.G3[i].Tag,true):=by
 obtain⟨h1,h2⟩:=h.tag i hi
 unfold m8
 cases hf:a.J0 with
 | true =>
  rw [if_pos rfl]
  unfold O4 S0
  rw [h.uniq i hi]
 | false =>
  rw [if_neg (by decide),if_neg (by omega),h2,hf];rfl
theorem H6.b0K {a:C7} {n:Nat} (h:H6 a n):∀ x∈a.x7,x.Plain.length≤1000000:=fun x hx=>by
 obtain⟨i,hi,rfl⟩:=List.getElem_of_mem hx
 have:=(h.box i hi).1
 omega
theorem b0L (k:Tag) (n:UInt64) (p:List UInt8):M0 k n (M0 k n p p.length) (M0 k n p p.length).length=p:=by
 rw [a7o,a7o]
 apply List.ext_getElem (by simp)
 intro i h1 h2
 simp [UInt8.xor_assoc]
theorem b2h (k:Tag) (n:Int) (p:List UInt8):(V0 k n p).length=p.length+8:=by simp [V0,E1,P7];omega
theorem a9Q (k:Tag) (n:Int) (p:List UInt8):(Y6 k n p).take ((Y6 k n p).length - 32)=V0 k n p:=by
 rw [a2I]
 unfold Y6
 rw [List.take_left' (by rw [b2h];omega)]
theorem b6a (k:Tag) (n:Int) (p:List UInt8):(Y6 k n p).drop ((Y6 k n p).length - 32)=(a0e k.l (a3h.l++V0 k n p)).l:=by
 rw [a2I]
 unfold Y6
 rw [List.drop_left' (by rw [b2h];omega)]
theorem b6b (k:Tag) (n:Int) (p:List UInt8):a3D k (Y6 k n p)=p:=by
 unfold a3D
 rw [a9Q]
 have h1:(V0 k n p).take 8=R7 (UInt64.ofInt n) 8:=by unfold V0;rw [List.take_left' (E1 _ _)]
 have h2:(V0 k n p).drop 8=M0 k (UInt64.ofInt n) p p.length:=by unfold V0;rw [List.drop_left' (E1 _ _)]
 rw [h1,h2,a7p,b0L]
structure Q0 (a b:C7):Prop where
 free:b.J0=a.J0
 fresh:a.F9≤b.F9
 Z5:∃ l,b.G3=a.G3++l
 boxes:∃ l,b.x7=a.x7++l
theorem Q0.refl (a:C7):Q0 a a:=⟨rfl,Int.le_refl _,⟨[],(List.append_nil _).symm⟩,⟨[],(List.append_nil _).symm⟩⟩
theorem Q0.trans {a b c:C7} (h:Q0 a b) (g:Q0 b c):Q0 a c:=by
 obtain⟨l,hl⟩:=h.Z5
 obtain⟨m,hm⟩:=g.Z5
 obtain⟨p,hp⟩:=h.boxes
 obtain⟨q,hq⟩:=g.boxes
 exact⟨g.free.trans h.free,Int.le_trans h.fresh g.fresh,⟨l++m,by rw [hm,hl,List.append_assoc]⟩,⟨p++q,by rw [hq,hp,List.append_assoc]⟩⟩
theorem Q0.b9F {a b:C7} (h:Q0 a b) {x:o9} (hx:x∈a.x7):x∈b.x7:=by
 obtain⟨l,hl⟩:=h.boxes;rw [hl];exact List.mem_append_left _ hx
theorem look_eq {a:C7} {k t:Tag} {m:List UInt8}:m8 a k m=(t,true)↔(if a.J0 then (∃ x,S0 a k m=some x∧x.Tag=t) else (m.length≤4096∧a0e k.l m=t)):=by
  unfold m8 O4
  cases a.J0 with
  | true =>
    rw [if_pos rfl,if_pos rfl]
    cases S0 a k m with
    | none => constructor
              · intro h;cases h
              · rintro⟨x,h,_⟩;cases h
    | some x => constructor
                · intro h;exact⟨x,rfl,(Prod.mk.inj h).1⟩
                · rintro⟨y,h,rfl⟩;cases h;rfl
  | false =>
    rw [if_neg (show ¬(false=true) by decide),if_neg (show ¬(false=true) by decide)]
    by_cases h:4096 < m.length
    · rw [if_pos h];constructor
      · intro h;cases h
      · rintro⟨h,_⟩;omega
    · rw [if_neg h];constructor
      · intro h;exact⟨by omega,(Prod.mk.inj h).1⟩
      · rintro⟨_,rfl⟩;rfl
theorem Q0.look {a b:C7} (h:Q0 a b) {k t:Tag} {m:List UInt8} (hl:m8 a k m=(t,true)):m8 b k m=(t,true):=by
 rw [look_eq] at hl ⊢
 rw [h.free]
 cases hf:a.J0 with
 | true =>
  rw [hf,if_pos rfl] at hl
  rw [if_pos rfl]
  obtain⟨x,h1,h2⟩:=hl
  obtain⟨l,e⟩:=h.Z5
  refine⟨x,?_,h2⟩
  unfold S0 at *
  rw [e,List.find?_append,h1];rfl
 | false =>
  rw [hf,if_neg (by decide)] at hl
  rw [if_neg (by decide)];exact hl
theorem Q0.looks {a b:C7} (h:Q0 a b) {k:Tag} {m:List UInt8} (hl:(m8 a k m).2=true):(m8 b k m).2=true:=by
 rw [h.look (Prod.ext rfl hl)]
theorem b9G {a:C7} {k:Tag} {x p:List UInt8}:C4 a k x=(p,0)↔(if a.J0 then (∃ y,a.x7.find? (a3k k x)=some y∧y.Plain=p) else (¬(x.length < 40∨296 < x.length)∧(a0e k.l (a3h.l++x.take (x.length - 32))).l=x.drop (x.length - 32)∧a3D k x=p)):=by
  unfold C4
  cases a.J0 with
  | true =>
    rw [if_pos rfl,if_pos rfl]
    cases a.x7.find? (a3k k x) with
    | none => constructor
              · intro h;cases h
              · rintro⟨x,h,_⟩;cases h
    | some y => constructor
                · intro h;exact⟨y,rfl,(Prod.mk.inj h).1⟩
                · rintro⟨y,h,rfl⟩;cases h;rfl
  | false =>
    rw [if_neg (show ¬(false=true) by decide),if_neg (show ¬(false=true) by decide)]
    by_cases h:x.length < 40∨296 < x.length
    · rw [if_pos h];constructor
      · intro h;cases h
      · rintro⟨h2,_⟩;exact absurd h h2
    · rw [if_neg h]
      by_cases h2:(a0e k.l (a3h.l++x.take (x.length - 32))).l=x.drop (x.length - 32)
      · rw [if_pos h2];constructor
        · intro h3;exact⟨h,h2,(Prod.mk.inj h3).1⟩
        · rintro⟨_,_,rfl⟩;rfl
      · rw [if_neg h2];constructor
        · intro h;cases h
        · rintro⟨_,h3,_⟩;exact absurd h3 h2
theorem Q0.opens {a b:C7} (h:Q0 a b) {k:Tag} {x p:List UInt8} (hl:C4 a k x=(p,0)):C4 b k x=(p,0):=by
 rw [b9G] at hl ⊢
 rw [h.free]
 cases hf:a.J0 with
 | true =>
  rw [hf,if_pos rfl] at hl
  rw [if_pos rfl]
  obtain⟨y,h1,h2⟩:=hl
  obtain⟨l,e⟩:=h.boxes
  exact⟨y,by rw [e,List.find?_append,h1];rfl,h2⟩
 | false =>
  rw [hf,if_neg (by decide)] at hl
  rw [if_neg (by decide)];exact hl
theorem b2i (n:UInt64):∀ k,k≤8→(R7 n k).foldl (fun a c=>256*a+c.toNat) 0=n.toNat/2^(64 - 8*k):=by
 intro k
 induction k with
 | zero=>intro _;have:=n.toNat_lt;simp [R7];omega
 | succ k ih =>
  intro hk
  rw [a1u,List.foldl_append,ih (by omega)]
  simp only [List.foldl_cons,List.foldl_nil]
  rw [c2y n (56 - 8*k) (by omega)]
  have e1:2^(64 - 8*k)=256*2^(56 - 8*k):=by
   rw [show 64 - 8*k=8+(56 - 8*k) by omega,Nat.pow_add]
  rw [show 64 - 8*(k+1)=56 - 8*k by omega,e1,Nat.mul_comm 256 (2^(56 - 8*k)),←Nat.div_div_eq_div_mul]
  generalize n.toNat/2^(56 - 8*k)=q
  omega
theorem a8K {m n:UInt64} (h:R7 m 8=R7 n 8):m=n:=by
 have h1:=b2i m 8 (by omega)
 have h2:=b2i n 8 (by omega)
 rw [h,h2] at h1
 apply UInt64.toNat_inj.1
 simpa using h1.symm
theorem b7X (c:UInt8) (n:Int):(U9 c n).l=b1F c n 8++List.replicate 17 0:=by
 unfold U9
 have:(b1F c n 8).length=15:=a4D c n 8
 show(b1F c n 8).take 32++(default:Tag).l.drop (b1F c n 8).length=_
 rw [List.take_of_length_le (by omega),this];rfl
theorem b3O {c d:UInt8} {m n:Int} (h:U9 c m=U9 d n):c=d∧UInt64.ofInt m=UInt64.ofInt n:=by
 have h2:=congrArg (·.l) h
 simp only [b7X] at h2
 have h3:=List.append_inj_left h2 (by rw [a4D,a4D])
 unfold b1F at h3
 simp only [List.append_assoc] at h3
 have h4:=List.append_cancel_left h3
 simp only [List.singleton_append,List.cons.injEq] at h4
 exact⟨h4.1,a8K h4.2⟩
theorem a9R {m n:Int} (hm0:0≤m) (hm:m < 18446744073709551616) (hn0:0≤n) (hn:n < 18446744073709551616) (h:UInt64.ofInt m=UInt64.ofInt n):m=n:=by
 have h2:=congrArg UInt64.toNat h
 simp [UInt64.ofInt] at h2
 omega
theorem b0M {c:UInt8} {i j:Nat} (hi:i < 1000000) (hj:j < 1000000) (h:U9 c ((i+1:Nat):Int)=U9 c ((j+1:Nat):Int)):i=j:=by
 have:=a9R (by omega) (by omega) (by omega) (by omega) (b3O h).2
 omega
structure b9H (a:C7) (n:Nat) (k:Tag) (m:List UInt8) (b:C7) (t:Tag):Prop where
 eq:H5 a k m=(b,t,0)
 ok:H6 b (n+1)
 le:Q0 a b
 look:m8 b k m=(t,true)
 boxes:b.x7=a.x7
 fresh:b.F9=a.F9
 Z5:∀ x∈b.G3,x∈a.G3∨(x.Key=k∧x.Message=m)
theorem H6.step {a:C7} {n:Nat} (h:H6 a n) (hn:n < 60000) (k:Tag) {m:List UInt8} (hm:m.length≤1000):∃ b t,b9H a n k m b t:=by
 have h1:=h.Z5
 have hok:=h.mac (by omega) (k:=k) hm
 cases hf:S0 a k m with
 | some x =>
  have e:H5 a k m=(a,x.Tag,0):=by unfold H5;rw [if_neg (by omega),hf]
  rw [e] at hok
  obtain⟨i,hi,rfl⟩:=List.getElem_of_mem (List.mem_of_find?_eq_some hf)
  have hx:=(a5a k m _).1 (List.find?_some hf)
  have hl:=h.b7W i hi
  rw [hx.1,hx.2] at hl
  exact⟨a,_,e,hok,Q0.refl _,hl,a8,a8,fun x hx=>Or.inl hx⟩
 | none =>
  have e:=a3Z (a:=a) (k:=k) (m:=m) (by omega) hf (by omega)
  rw [e] at hok
  have hi:a.G3.length < (a.G3 ++ [(⟨k,m,a3g a k m⟩:y5)]).length:=by simp
  have hl:=hok.b7W a.G3.length hi
  simp only [List.getElem_concat_length] at hl
  refine⟨_,_,e,hok,⟨rfl,Int.le_refl _,⟨_,rfl⟩,⟨[],by simp⟩⟩,hl,rfl,rfl,fun x hx => ?_⟩
  rcases List.mem_append.1 hx with h|h
  ·exact Or.inl h
  ·obtain rfl:=List.mem_singleton.1 h;exact Or.inr ⟨rfl,rfl⟩
structure b7Y (a:C7) (n:Nat) (k:Tag) (m:List UInt8) (b:C7) (t:Tag):Prop where
 eq:a5u a k m=(b,t,0)
 ok:H6 b (n+2)
 le:Q0 a b
 look:m8 b k m=(t,true)
 node:(m8 b t G2).2=true
 boxes:b.x7=a.x7
 fresh:b.F9=a.F9
 Z5:∀ x∈b.G3,x∈a.G3∨x.Message=m∨x.Message=G2
theorem H6.Z7 {a:C7} {n:Nat} (h:H6 a n) (hn:n < 50000) (k:Tag) {m:List UInt8} (hm:m.length≤1000):∃ b t,b7Y a n k m b t:=by
 obtain⟨b,t,s⟩:=h.step (by omega) k hm
 obtain⟨c,u,s2⟩:=s.ok.step (by omega) t (m:=G2) (by decide)
 refine⟨c,t,?_,s2.ok,s.le.trans s2.le,s2.le.look s.look,by rw [s2.look],s2.boxes.trans s.boxes,s2.fresh.trans s.fresh,fun x hx => ?_⟩
 ·unfold a5u;rw [s.eq,F7 rfl];dsimp only;rw [s2.eq,F7 rfl]
 ·rcases s2.Z5 x hx with h|⟨_,h⟩
  ·rcases s.Z5 x h with h|⟨_,h⟩
   ·exact Or.inl h
   ·exact Or.inr (Or.inl h)
  ·exact Or.inr (Or.inr h)
structure b9I (a:C7) (n:Nat) (b:C7) (t:Tag):Prop where
 eq:Q7 a=(b,t,0)
 ok:H6 b (n+1)
 le:Q0 a b
 boxes:b.x7=a.x7
 Z5:b.G3=a.G3
 fresh:b.F9=a.F9+1
 sym:a.J0=true→t=U9 107 b.F9
theorem H6.b0N {a:C7} {n:Nat} (h:H6 a n) (hn:n < 60000):∃ b t,b9I a n b t:=by
 have h1:=h.a6Z
 have hok:=h.key (by omega)
 have e:Q7 a=(⟨a.J0,a.a5f,a.F9+1,a.G3,a.x7⟩,(if a.J0 then U9 107 (a.F9+1) else (derive a.a5f a8B (a.F9+1)).1),0):=by
  unfold Q7;rw [if_neg (by omega)]
 rw [e] at hok
 exact⟨_,_,e,hok,⟨rfl,by show a.F9≤a.F9+1;omega,⟨[],by simp⟩,⟨[],by simp⟩⟩,rfl,rfl,rfl,fun hf=>by rw [hf];rfl⟩
theorem H6.b4X {b:C7} {m:Nat} (hb:H6 b m) (hm:m≤60000) {i:Nat} (h:i < b.x7.length):C4 b b.x7[i].Key b.x7[i].X3=(b.x7[i].Plain,0)∧b.x7[i].X3.length=b.x7[i].Plain.length+40:=by
 have hl:=hb.boxes
 obtain⟨h1,h2,h3,h4⟩:=hb.box i h
 cases hf:b.J0 with
 | true =>
  rw [hf,if_pos rfl] at h4
  refine⟨?_,by rw [h4,List.length_append,J7.len,List.length_replicate];omega⟩
  cases hq:b.x7.find? (a3k b.x7[i].Key b.x7[i].X3) with
  | none =>
   have:=List.find?_eq_none.1 hq b.x7[i] (List.getElem_mem h)
   simp [a3k] at this
  | some y =>
   rw [a3l hf hq]
   have hy:=List.find?_some hq
   obtain⟨j,hj,rfl⟩:=List.getElem_of_mem (List.mem_of_find?_eq_some hq)
   obtain⟨_,_,_,g4⟩:=hb.box j hj
   rw [hf,if_pos rfl] at g4
   simp only [a3k,Bool.and_eq_true,decide_eq_true_eq] at hy
   have e:=hy.2
   rw [g4,h4] at e
   obtain rfl:=b0M (by omega) (by omega) (J7.ext (List.append_inj_left e (by rw [J7.len,J7.len])))
   rfl
 | false =>
  rw [hf,if_neg (by decide)] at h4
  have hlen:b.x7[i].X3.length=b.x7[i].Plain.length+40:=by rw [h4,a2I]
  refine⟨?_,hlen⟩
  rw [a5R hf (by omega)]
  ·rw [h4,b6b]
  ·rw [h4,a9Q,b6a]
structure b7Z (a:C7) (n:Nat) (k:Tag) (c:Int) (p:List UInt8) (b:C7) (x:List UInt8):Prop where
 eq:Q8 a k c p=(b,x,0)
 ok:H6 b (n+1)
 le:Q0 a b
 opens:C4 b k x=(p,0)
 len:x.length=p.length+40
 Z5:b.G3=a.G3
 fresh:b.F9=a.F9
 at_:∃ i,∃ h:i < b.x7.length,b.x7[i]=⟨k,c,p,x⟩
 boxes:∀ y∈b.x7,y∈a.x7∨y=⟨k,c,p,x⟩
theorem H6.b2j {a:C7} {n:Nat} (ha:H6 a n) (hn:n < 50000) (k:Tag) {c:Int} {p:List UInt8} (hc0:0≤c) (hc1:c≤281474976710656) (hp:p.length≤256):∃ b x,b7Z a n k c p b x:=by
 have hok:=ha.boxed (by omega) (k:=k) hc0 hc1 hp
 have hr:(decide (c < 0)||decide (281474976710656 < c))=false:=by simp;omega
 have hl:=ha.boxes
 cases hf:a.x7.find? (a4H k c p) with
 | some y =>
  have e:=a3j hr (by omega) hf
  rw [e] at hok
  obtain⟨i,hi,rfl⟩:=List.getElem_of_mem (List.mem_of_find?_eq_some hf)
  have hy:=List.find?_some hf
  simp only [a4H,Bool.and_eq_true,decide_eq_true_eq] at hy
  obtain⟨h1,h2⟩:=ha.b4X (by omega) hi
  obtain⟨⟨e1,e2⟩,e3⟩:=hy
  rw [e1,e3] at h1
  rw [e3] at h2
  refine⟨a,_,e,hok,Q0.refl _,h1,h2,a8,a8,⟨i,hi,?_⟩,fun y hy=>Or.inl hy⟩
  rw [←e1,←e2,←e3]
 | none =>
  have e:=a2W hr (by omega) hf (by omega)
  rw [e] at hok
  have hi:a.x7.length < (a.x7 ++ [(⟨k,c,p,a3i a k c p⟩:o9)]).length:=by simp
  obtain⟨h1,h2⟩:=hok.b4X (by omega) hi
  simp only [List.getElem_concat_length] at h1 h2
  refine⟨_,_,e,hok,⟨rfl,Int.le_refl _,⟨[],by simp⟩,⟨_,rfl⟩⟩,h1,h2,rfl,rfl,⟨a.x7.length,hi,by simp⟩,fun y hy => ?_⟩
  rcases List.mem_append.1 hy with h|h
  ·exact Or.inl h
  ·exact Or.inr (List.mem_singleton.1 h)
theorem Q0.walk {a b:C7} (h:Q0 a b) {k:Tag} {l:List (List UInt8)} {r:List Tag} (hl:O5 (m8 a) k l=some r):O5 (m8 b) k l=some r:=by
 unfold O5 at *
 generalize (some [k]:Option (List Tag))=o at hl ⊢
 induction l generalizing o with
 | nil=>exact hl
 | cons m l ih =>
  rw [List.foldl_cons] at hl ⊢
  cases o with
  | none =>
   have:X7 (m8 a) none m=none:=rfl
   rw [this,a5b] at hl;cases hl
  | some s =>
   have e:X7 (m8 a) (some s) m=X7 (m8 b) (some s) m:=by
    show(if (m8 a (s.getLastD default) m).2 then some (s ++ [(m8 a (s.getLastD default) m).1]) else none)=if (m8 b (s.getLastD default) m).2 then some (s ++ [(m8 b (s.getLastD default) m).1]) else none
    cases h2:(m8 a (s.getLastD default) m).2 with
    | false =>
     have:X7 (m8 a) (some s) m=none:=by
      show(if (m8 a (s.getLastD default) m).2 then some (s ++ [(m8 a (s.getLastD default) m).1]) else none)=none
      rw [h2];rfl
     rw [this,a5b] at hl;cases hl
    | true=>rw [h.look (Prod.ext rfl h2)]
   rw [←e];exact ih _ hl
theorem Q0.dis {a b:C7} (h:Q0 a b) {k t:Tag} {x:List UInt8} {l:List Pred} (hl:V2 a k x l=some t):V2 b k x l=some t:=by
 unfold V2 at *
 have hg:∀ u,a61 a k x=some u→a61 b k x=some u:=fun u hu=>by
  unfold a61 at *
  cases h2:(m8 a k (a0x x)).2 with
  | false=>rw [h2] at hu;cases hu
  | true=>rw [h2] at hu;rw [h.look (Prod.ext rfl h2)];exact hu
 cases h0:a61 a k x with
 | none=>rw [h0,a5S] at hl;cases hl
 | some u =>
  rw [hg u h0];rw [h0] at hl
  clear h0
  induction l generalizing u with
  | nil=>exact hl
  | cons p l ih =>
   rw [List.foldl_cons] at hl ⊢
   have e:∀ v,V1 a (some u) p=some v→V1 b (some u) p=some v:=fun v hv=>by
    unfold V1 at *
    simp only [Option.bind_some] at hv ⊢
    split at hv
    ·next h3=>rw [h.look (Prod.ext rfl h3.2.2)];rw [if_pos ⟨h3.1,h3.2.1,rfl⟩];exact hv
    ·cases hv
   cases h4:V1 a (some u) p with
   | none=>rw [h4,a5S] at hl;cases hl
   | some v=>rw [e v h4];rw [h4] at hl;exact ih v hl
theorem a6t (p:Tag→List UInt8→Tag×Bool) (k:Tag) (l:List (List UInt8)) (m:List UInt8):O5 p k (l ++ [m])=X7 p (O5 p k l) m:=by
 unfold O5;rw [List.foldl_append];rfl
structure b9J (A:C7) (P:Pass) (g:Dis):Prop where
 tick:1≤g.j8.length∧g.j8.length≤100
 con:∀ p∈g.l8,A5 p=true∧p.Kind≠7
 a7P:g.l8.length≤8
 cav:∃ c∈P.l9,c.M1=true∧c.j8=g.j8
 key:∃ bk:Tag,V2 A bk g.j8 g.l8=some g.Tag∧(A.J0=true→∃ n,bk=U9 107 n)
 box:∃ x∈A.x7,x.X3=g.j8∧1≤x.E3
structure b6c (A:C7) (G:List Dis) (t:Tag) (c:Cav):Prop where
 th:∃ key bk g,g∈G∧m8 A t (D1 c.j8)=(key,true)∧C4 A key c.X3=(bk.l,0)∧g.j8=c.j8∧V2 A bk g.j8 g.l8=some g.Tag
structure a0i (A:C7) (root:p6) (P:Pass) (G:List Dis) (T:List Tag) (n k:Nat):Prop where
 ok:H6 A n
 a4e:P.C9=root.Number∧1≤root.Number∧root.Number≤2
 a4R:1≤P.y7∧P.y7≤50
 a4M:P.l9.length≤k
 ngr:G.length≤k
 cav:∀ c∈P.l9,H7 c=true∧(D7 c).length≤200
 walk:O5 (m8 A) root.Key (C5 P.y7 P.l9)=some (root.Key::T)
 leaf:(root.Key::T).getLastD default=P.Tag
 a5X:T.length=P.l9.length+1
 nodes:∀ t∈T,(m8 A t G2).2=true
 a7x:∀ i (h:i < P.l9.length),P.l9[i].M1=true→b6c A G (T.getD i default) P.l9[i]
 a3F:∀ g∈G,b9J A P g
 nodup:(G.map (·.j8)).Nodup
 G6:∀ x∈A.x7,x.E3≤A.F9
 a63:A.J0=true→∀ x∈A.x7,x.Plain.length=32→∃ n:Int,x.Plain=(U9 107 n).l
def a3G (A:C7):Prop:=∀ x∈A.G3,∃ c,x.Message.head?=some c∧c≠114∧c≠98
theorem b9J.le {A B:C7} {P Q:Pass} {g:Dis} (h:b9J A P g) (hl:Q0 A B) (hp:∀ c∈P.l9,c∈Q.l9):b9J B Q g:=by
 obtain⟨c,hc,hc2⟩:=h.cav
 obtain⟨bk,hb,hb2⟩:=h.key
 obtain⟨x,hx,hx2⟩:=h.box
 exact⟨h.tick,h.con,h.a7P,⟨c,hp c hc,hc2⟩,⟨bk,hl.dis hb,fun hf=>hb2 (hl.free▸hf)⟩,⟨x,hl.b9F hx,hx2⟩⟩
theorem b6c.le {A B:C7} {G H:List Dis} {t:Tag} {c:Cav} (h:b6c A G t c) (hl:Q0 A B) (hg:∀ g∈G,g∈H):b6c B H t c:=by
 obtain⟨key,bk,g,h1,h2,h3,h4,h5⟩:=h.th
 exact⟨key,bk,g,hg g h1,hl.look h2,hl.opens h3,h4,hl.dis h5⟩
theorem a0i.le {A B : C7} {root : p6} {P : Pass} {G : List Dis} {T : List Tag} {n m k : Nat} (h : a0i A root P G T n k) (hl : Q0 A B) (hb : H6 B m) (hn : ∀ x ∈ B.x7, x.E3 ≤ B.F9)
    (hp:A.J0=true→∀ x∈B.x7,x.Plain.length=32→∃ n:Int,x.Plain=(U9 107 n).l):a0i B root P G T m k :=
  ⟨hb,h.a4e,h.a4R,h.a4M,h.ngr,h.cav,hl.walk h.walk,h.leaf,h.a5X,fun t ht=>hl.looks (h.nodes t ht),fun i hi h3=>(h.a7x i hi h3).le hl fun _ hg=>hg,
    fun g hg=>(h.a3F g hg).le hl fun _ hc=>hc,h.nodup,hn,fun hf=>hp (hl.free▸hf)⟩
theorem a0i.mac {A B:C7} {root:p6} {P:Pass} {G:List Dis} {T:List Tag} {n m k:Nat} (h:a0i A root P G T n k) (hl:Q0 A B) (hb:H6 B m) (e:B.x7=A.x7):a0i B root P G T m k :=
 h.le hl hb (fun x hx=>Int.le_trans (h.G6 x (e▸hx)) hl.fresh) fun hf x hx=>h.a63 hf x (e▸hx)
theorem a0i.wide {A:C7} {root:p6} {P:Pass} {G:List Dis} {T:List Tag} {n k m j:Nat} (h:a0i A root P G T n k) (hm:n≤m) (hj:k≤j):a0i A root P G T m j :=
 ⟨h.ok.le hm,h.a4e,h.a4R,Nat.le_trans h.a4M hj,Nat.le_trans h.ngr hj,h.cav,h.walk,h.leaf,h.a5X,h.nodes,h.a7x,h.a3F,h.nodup,h.G6,h.a63⟩
theorem b2k {n:Int} (h:n≤50):(W4 n).length≤20:=by
 have:=A8 (n:=n.toNat) (by omega)
 unfold W4;simp;omega
theorem a5d {c:Cav} (h:H7 c=true):Z6 c = [99,97,118,101,97,116]++D7 c:=by unfold Z6 W3;rw [if_pos h]
theorem a0i.start (free : Bool) (seed : Tag) {A : C7} {root : p6} (he : 1 ≤ root.Number ∧ root.Number ≤ 2) {n : Int} (hA : H6 A 2) (hm : A.G3 = []) (hb : A.x7 = []) (h0 : 1 ≤ n) (h1 : n ≤ 50) :
    ∃ B P T,a7u A root n=(B,P,0)∧a0i B root P [] T 4 0∧a3G B∧B.J0=A.J0∧P.y7=n:=by
  obtain⟨b,t,s⟩:=hA.Z7 (by omega) root.Key (m:=W4 n) (by have:=b2k h1;omega)
  have hbx:b.x7 = []:=s.boxes.trans hb
  refine⟨b,⟨root.Number,n,[],t⟩,[t],?_,⟨s.ok,⟨a8,he⟩,⟨h0,h1⟩,Nat.le_refl _,Nat.le_refl _,fun c hc=>(by cases hc),?_,a8,a8,fun u hu => ?_,fun i hi=>(by cases hi),fun g hg=>(by cases hg),List.nodup_nil,fun x hx=>(by rw [hbx] at hx;cases hx),fun _ x hx=>(by rw [hbx] at hx;cases hx)⟩,fun x hx => ?_,s.le.free,a8⟩
  · unfold a7u
    have hr:K6 root.Number n=true:=by unfold K6;simp;omega
    rw [if_neg (by rw [hr];decide),s.eq,F7 rfl]
  · show O5 (m8 b) root.Key [W4 n]=some [root.Key,t]
    show X7 (m8 b) (some [root.Key]) (W4 n)=_
    show(if (m8 b root.Key (W4 n)).2 then some ([root.Key] ++ [(m8 b root.Key (W4 n)).1]) else none)=_
    rw [s.look];rfl
  · obtain rfl:=List.mem_singleton.1 hu;exact s.node
  · rcases s.Z5 x hx with h|h|h
    · rw [hm] at h;cases h
    · exact⟨109,by rw [h];rfl,by decide,by decide⟩
    · exact⟨110,by rw [h];rfl,by decide,by decide⟩
theorem b6d {A : C7} {root t u : Tag} {n : Int} {l : List Cav} {c : Cav} {T : List Tag} (h : O5 (m8 A) root (C5 n l) = some (root :: T)) (h2 : (root :: T).getLastD default = t) (h3 : m8 A t (Z6 c) = (u, true)) :
    O5 (m8 A) root (C5 n (l ++ [c]))=some (root::(T ++ [u])):=by
  have e:C5 n (l ++ [c])=C5 n l ++ [Z6 c]:=by unfold C5;rw [List.map_append];rfl
  rw [e,a6t,h]
  show(if (m8 A ((root::T).getLastD default) (Z6 c)).2 then some ((root::T) ++ [(m8 A ((root::T).getLastD default) (Z6 c)).1]) else none)=_
  rw [h2,h3];rfl
theorem a8L {T:List Tag} {u:Tag} {i:Nat} (h:i < T.length):(T ++ [u]).getD i default=T.getD i default:=by
 rw [List.getD_eq_getElem?_getD,List.getD_eq_getElem?_getD,List.getElem?_append_left h]
theorem a0i.att {A : C7} {root : p6} {P : Pass} {G H : List Dis} {T : List Tag} {n k : Nat} (h : a0i A root P G T n k) (hn : n < 1000) (hk : k < 8) {c : Cav} (hc : H7 c = true) (hcl : (D7 c).length ≤ 200) (hh : a3G A) :
    ∃ B Q u,a4h A P c=(B,Q,0)∧H6 B (n+2)∧Q0 A B∧B.x7=A.x7∧B.F9=A.F9∧a3G B∧Q.C9=P.C9∧Q.y7=P.y7∧Q.l9=P.l9 ++ [c]∧Q.Tag=u ∧
      O5 (m8 B) root.Key (C5 Q.y7 Q.l9)=some (root.Key::(T ++ [u]))∧(m8 B u G2).2=true:=by
  obtain⟨b,t,s⟩:=h.ok.Z7 (by omega) P.Tag (m:=Z6 c) (by rw [a5d hc,List.length_append];show 6+_≤_;omega)
  refine⟨b,⟨P.C9,P.y7,P.l9 ++ [c],t⟩,t,?_,s.ok,s.le,s.boxes,s.fresh,fun x hx => ?_,a8,a8,a8,a8,b6d (s.le.walk h.walk) h.leaf s.look,s.node⟩
  · unfold a4h
    have hm:a6s P c=false:=by
      have h1:=h.a4M
      have h2:=a0P P.l9
      unfold a6s a09
      rw [decide_eq_false (by omega),decide_eq_false (by omega)];simp
    rw [if_neg (by rw [hc];decide),if_neg (by rw [hm];decide),s.eq,F7 rfl]
  · rcases s.Z5 x hx with h|h|h
    · exact hh x h
    · exact⟨99,by rw [h,a5d hc];rfl,by decide,by decide⟩
    · exact⟨110,by rw [h];rfl,by decide,by decide⟩
theorem a0i.first {A : C7} {root : p6} {P : Pass} {G : List Dis} {T : List Tag} {n k : Nat} (h : a0i A root P G T n k) (hn : n < 1000) (hk : k < 8) {p : Pred} (hp : A5 p = true) (hh : a3G A) :
    ∃ B Q U,a4h A P ⟨false,p,0,[],[]⟩=(B,Q,0)∧a0i B root Q G U (n+2) (k+1)∧a3G B∧B.J0=A.J0:=by
  have hc:H7 ⟨false,p,0,[],[]⟩=true:=by unfold H7;simp [hp]
  obtain⟨B,Q,u,h1,h2,h3,h4,h5,h6,h7,h8,h9,h10,h11,h12⟩:=h.att (H:=G) hn hk (c:=⟨false,p,0,[],[]⟩) hc (by unfold D7;have:=I5 (L6 hp);simp;omega) hh
  refine⟨B,Q,T ++ [u],h1,⟨h2,⟨h7.trans h.a4e.1,h.a4e.2⟩,by rw [h8];exact h.a4R,by rw [h9,List.length_append];have:=h.a4M;simp;omega,Nat.le_succ_of_le h.ngr,fun c hc => ?_,h11,?_,?_,fun t ht => ?_,fun i hi h3' => ?_,fun g hg => ?_,h.nodup,?_,?_⟩,h6,h3.free⟩
  · rw [h9] at hc
    rcases List.mem_append.1 hc with h|h
    · exact a0i.cav ‹_› c h
    · obtain rfl:=List.mem_singleton.1 h
      exact⟨‹_›,by unfold D7;have:=I5 (L6 hp);simp;omega⟩
  · rw [h10,←List.cons_append,List.getLastD_eq_getLast?,List.getLast?_append];rfl
  · rw [h9,List.length_append,List.length_append,h.a5X];rfl
  · rcases List.mem_append.1 ht with h'|h'
    · exact h3.looks (h.nodes t h')
    · obtain rfl:=List.mem_singleton.1 h';exact h12
  · by_cases e:i < P.l9.length
    · have e2:Q.l9[i]=P.l9[i]:=by simp only [h9];exact List.getElem_append_left e
      rw [e2] at h3' ⊢
      rw [a8L (by rw [h.a5X];omega)]
      exact(h.a7x i e h3').le h3 fun _ hg=>hg
    · have hi2:=hi
      rw [h9,List.length_append] at hi2
      have e3:i=P.l9.length:=by simp at hi2;omega
      have e2:Q.l9[i]=⟨false,p,0,[],[]⟩:=by simp only [h9];rw [List.getElem_append_right (by omega)];simp
      rw [e2] at h3';cases h3'
  · exact(h.a3F g hg).le h3 fun c hc=>by rw [h9];exact List.mem_append_left _ hc
  · intro x hx;rw [h5];exact h.G6 x (h4▸hx)
  · intro hf x hx;exact h.a63 (h3.free▸hf) x (h4▸hx)
theorem H6.b8a {a:C7} {n:Nat} (h:H6 a n) (hn:n < 60000) {y z:o9} (hy:y∈a.x7) (hz:z∈a.x7) (e:y.X3=z.X3):y.E3=z.E3:=by
 obtain⟨i,hi,rfl⟩:=List.getElem_of_mem hy
 obtain⟨j,hj,rfl⟩:=List.getElem_of_mem hz
 obtain⟨_,a0,a1,h1⟩:=h.box i hi
 obtain⟨_,b0,b1,h2⟩:=h.box j hj
 have hl:=h.boxes
 cases hf:a.J0 with
 | true =>
  rw [hf,if_pos rfl] at h1 h2
  rw [h1,h2] at e
  obtain rfl:=b0M (by omega) (by omega) (J7.ext (List.append_inj_left e (by rw [J7.len,J7.len])))
  rfl
 | false =>
  rw [hf,if_neg (by decide)] at h1 h2
  rw [h1,h2] at e
  have e2:=congrArg (List.take 8) e
  unfold Y6 V0 at e2
  simp only [List.append_assoc] at e2
  rw [List.take_left' (E1 _ _),List.take_left' (E1 _ _)] at e2
  exact a9R a0 (by omega) b0 (by omega) (a8K e2)
theorem b2l (a:C7) (k:Tag) (t:List UInt8) (l:List Pred) (p:Pred):V2 a k t (l ++ [p])=V1 a (V2 a k t l) p:=by
 unfold V2;rw [List.foldl_append];rfl
theorem a7y {a:C7} {t u:Tag} {p:Pred} (hp:A5 p=true) (h7:p.Kind≠7) (h:m8 a t (W5 p)=(u,true)):V1 a (some t) p=some u:=by
 unfold V1;simp only [Option.bind_some];rw [h,if_pos ⟨hp,h7,rfl⟩]
theorem a5Y {p:Pred} (h:A5 p=true):W5 p = [99,111,110,100,105,116,105,111,110]++u4 p:=by unfold W5 U3;rw [if_pos h]
theorem a7z {p:Pred} (h:A5 p=true):(W5 p).length≤40:=by
 rw [a5Y h,List.length_append];have:=I5 (L6 h);show 9+_≤_;omega
theorem a0i.restrict {A : C7} {root : p6} {P : Pass} {G : List Dis} {g : Dis} {T : List Tag} {n k : Nat} (h : a0i A root P (G ++ [g]) T n k) (hn : n < 1000) (hh : a3G A) {p : Pred} (hp : A5 p = true) (h7 : p.Kind ≠ 7) (hc : g.l8.length < 8) :
    ∃ B d,S6 A g p=(B,d,0)∧a0i B root P (G ++ [d]) T (n+1) k∧a3G B∧B.J0=A.J0∧d.l8.length=g.l8.length+1:=by
  obtain⟨B,t,s⟩:=h.ok.step (by omega) g.Tag (m:=W5 p) (by have:=a7z hp;omega)
  have hB:=h.mac s.le s.ok s.boxes
  have hstep:∀ bk:Tag,V2 A bk g.j8 g.l8=some g.Tag→V2 B bk g.j8 (g.l8 ++ [p])=some t:=fun bk hb=>by
    rw [b2l,s.le.dis hb,a7y hp h7 s.look]
  refine⟨B,⟨g.j8,g.l8 ++ [p],t⟩,?_,⟨hB.ok,hB.a4e,hB.a4R,hB.a4M,?_,hB.cav,hB.walk,hB.leaf,hB.a5X,hB.nodes,fun i hi h3 => ?_,fun d hd => ?_,?_,hB.G6,hB.a63⟩,fun x hx => ?_,s.le.free,by simp⟩
  · unfold S6
    rw [if_neg (by rw [hp];decide),if_neg h7,if_neg (by omega),s.eq,F7 rfl]
  · have:=hB.ngr;simpa using this
  · obtain⟨key,bk,d,h1,h2,h4,h5,h6⟩:=(h.a7x i hi h3).th
    rcases List.mem_append.1 h1 with hg|hg
    · exact⟨key,bk,d,List.mem_append_left _ hg,s.le.look h2,s.le.opens h4,h5,s.le.dis h6⟩
    · obtain rfl:=List.mem_singleton.1 hg
      exact⟨key,bk,_,List.mem_append_right _ (List.mem_singleton.2 a8),s.le.look h2,s.le.opens h4,h5,hstep bk h6⟩
  · rcases List.mem_append.1 hd with hg|hg
    · exact hB.a3F d (List.mem_append_left _ hg)
    · obtain rfl:=List.mem_singleton.1 hg
      have hg0:=h.a3F g (List.mem_append_right _ (List.mem_singleton.2 rfl))
      obtain⟨bk,hb,hb2⟩:=hg0.key
      obtain⟨x,hx,hx2⟩:=hg0.box
      refine⟨hg0.tick,fun q hq => ?_,by dsimp only;rw [List.length_append];simp;omega,hg0.cav,⟨bk,hstep bk hb,fun hf=>hb2 (s.le.free▸hf)⟩,⟨x,s.le.b9F hx,hx2⟩⟩
      rcases List.mem_append.1 hq with h'|h'
      · exact hg0.con q h'
      · obtain rfl:=List.mem_singleton.1 h';exact⟨hp,h7⟩
  · have:=hB.nodup;simpa using this
  · rcases s.Z5 x hx with h'|⟨_,h'⟩
    · exact hh x h'
    · exact⟨99,by rw [h',a5Y hp];rfl,by decide,by decide⟩
theorem a2Z (k:Tag):Z8 k ⟨0,150⟩=k.l ++ [0,150,1]:=by
 unfold Z8;rw [List.append_assoc];congr 1
 show K5 0++K5 150 = [0,150,1]
 simp [K5]
theorem a0i.c3q {A : C7} {root : p6} {P : Pass} {G : List Dis} {T : List Tag} {n k : Nat} (h : a0i A root P G T n k) (hn : n < 900) (hk : k < 8) (hh : a3G A) {c : b0I} (hp0 : 0 ≤ c.E8) (hp7 : c.E8 ≤ 7) (s : Str) (hs : S8 s = true) :
    ∃ A1 b,a35 A c ⟨0,150⟩=(A1,b,0)∧H6 A1 (n+2)∧∃ A2 P2,b2b A1 P b=(A2,P2,0)∧C4 A2 c.Key b.j8=(b.Key.l ++ [0,150,1],0)∧H6 A2 (n+6)∧b.j8.length≤100 ∧
      ∃ A3 g U,a5V A2 b.Key b.j8 s=(A3,g,0)∧a0i A3 root P2 (G ++ [g]) U (n+8) (k+1)∧a3G A3∧A3.J0=A.J0∧g.l8.length=1:=by
  obtain⟨b1,kt,s1⟩:=h.ok.b0N (by omega)
  have hf0:=h.ok.a5N
  have hf1:=h.ok.a6Z
  have hfr:=s1.fresh
  obtain⟨A1,x,s2⟩:=s1.ok.b2j (by omega) c.Key (c:=b1.F9) (p:=Z8 kt ⟨0,150⟩) (by omega) (by omega) (by rw [a2Z,List.length_append,J7.len];decide)
  have hx:x.length=75:=by rw [s2.len,a2Z,List.length_append,J7.len];rfl
  obtain⟨a2,kt2,s3⟩:=s2.ok.step (by omega) P.Tag (m:=D1 x) (by unfold D1;rw [List.length_append];simp;omega)
  obtain⟨a3,bx,s4⟩:=s3.ok.b2j (by omega) kt2 (c:=0) (p:=kt.l) (by omega) (by omega) (by rw [J7.len];decide)
  have hbx:bx.length=72:=by rw [s4.len,J7.len]
  have le13:=s1.le.trans (s2.le.trans (s3.le.trans s4.le))
  have hfr3:a3.F9=A.F9+1:=by rw [s4.fresh,s3.fresh,s2.fresh,s1.fresh]
  have hbox:∀ y∈a3.x7,y∈A.x7∨y=⟨c.Key,b1.F9,Z8 kt ⟨0,150⟩,x⟩∨y=⟨kt2,0,kt.l,bx⟩:=fun y hy=>by
    rcases s4.boxes y hy with h'|h'
    · rw [s3.boxes] at h'
      rcases s2.boxes y h' with h'|h'
      · rw [s1.boxes] at h';exact Or.inl h'
      · exact Or.inr (Or.inl h')
    · exact Or.inr (Or.inr h')
  have h3:a0i a3 root P G T (n+4) k:=by
    refine h.le le13 s4.ok (fun y hy => ?_) fun hf y hy hl => ?_
    · rcases hbox y hy with h'|rfl|rfl
      · have:=h.G6 y h';omega
      · dsimp only;omega
      · dsimp only;omega
    · rcases hbox y hy with h'|rfl|rfl
      · exact h.a63 hf y h' hl
      · rw [a2Z,List.length_append,J7.len] at hl;simp at hl
      · exact⟨_,congrArg (·.l) (s1.sym hf)⟩
  have hh3:a3G a3:=fun y hy=>by
    rw [s4.Z5] at hy
    rcases s3.Z5 y hy with h'|⟨_,h'⟩
    · rw [s2.Z5,s1.Z5] at h';exact hh y h'
    · exact⟨115,by rw [h'];rfl,by decide,by decide⟩
  have hc:H7 ⟨true,default,c.E8,x,bx⟩=true:=by unfold H7;simp;omega
  have hcl:(D7 ⟨true,default,c.E8,x,bx⟩).length≤200:=by
    have l1:=A8 (n:=c.E8.toNat) (by omega)
    have l2:=A8 (n:=x.length) (by omega)
    have l3:=A8 (n:=bx.length) (by omega)
    unfold D7 a0n;simp;omega
  obtain⟨A2,Q,u,e1,ok2,le2,bx2,fr2,hh2,q1,q2,q3,q4,w2,nd2⟩:=h3.att (H:=G) (by omega) hk hc hcl hh3
  obtain⟨a5,gt,s5⟩:=ok2.step (by omega) kt (m:=a0x x) (by unfold a0x;rw [List.length_append];simp;omega)
  have hpo:A5 (a2Y s)=true:=by unfold A5 a2Y;simp [hs]
  obtain⟨A3,t,s6⟩:=s5.ok.step (by omega) gt (m:=W5 (a2Y s)) (by have:=a7z hpo;omega)
  have le36:Q0 a3 A3:=le2.trans (s5.le.trans s6.le)
  have le16:Q0 A A3:=le13.trans le36
  have hopen:C4 A2 c.Key x=(kt.l ++ [0,150,1],0):=by rw [←a2Z];exact(s3.le.trans (s4.le.trans le2)).opens s2.opens
  have hdis:V2 A3 kt x [a2Y s]=some t:=by
    unfold V2 a61
    rw [s6.le.look s5.look]
    exact a7y hpo (show(6:Int)≠7 by decide) s6.look
  have hbx6:A3.x7=a3.x7:=s6.boxes.trans (s5.boxes.trans bx2)
  have hfr6:A3.F9=a3.F9:=s6.fresh.trans (s5.fresh.trans fr2)
  obtain⟨i2,hi2,at2⟩:=s2.at_
  have hmem:(⟨c.Key,b1.F9,Z8 kt ⟨0,150⟩,x⟩:o9)∈A3.x7:=by
    rw [hbx6];exact(s3.le.trans s4.le).b9F (at2▸List.getElem_mem hi2)
  have hlast:T.getD P.l9.length default=P.Tag:=by
    have h1:=h.leaf
    have h2:=h.a5X
    have hne:T ≠ []:=by intro e;rw [e] at h2;simp at h2
    rw [List.getLastD_eq_getLast?,List.getLast?_cons,] at h1
    rw [List.getD_eq_getElem?_getD,show P.l9.length=T.length - 1 by omega,←List.getLast?_eq_getElem?]
    rw [←h1]
    cases hq:T.getLast? with
    | none=>exact absurd (List.getLast?_eq_none_iff.1 hq) hne
    | some z=>rfl
  refine⟨A1,⟨c.E8,kt,x⟩,?_,s2.ok,A2,Q,?_,hopen,ok2,by dsimp only;omega,A3,⟨x,[a2Y s],t⟩,T ++ [u],?_,⟨s6.ok,⟨q1.trans h.a4e.1,h.a4e.2⟩,by rw [q2];exact h.a4R,by rw [q3,List.length_append];have:=h.a4M;simp;omega,by rw [List.length_append];have:=h.ngr;simp;omega,?_,(s5.le.trans s6.le).walk w2,?_,?_,fun v hv => ?_,fun i hi ht => ?_,fun g hg => ?_,?_,?_,?_⟩,?_,?_,rfl⟩
  · unfold a35
    have ht:(a0D ⟨0,150⟩&&decide (0≤c.E8)&&decide (c.E8≤7))=true:=by unfold a0D;simp;omega
    rw [if_neg (by rw [ht];decide),s1.eq,F7 rfl]
    dsimp only
    rw [s2.eq,F7 rfl]
  · unfold b2b
    dsimp only
    rw [s3.eq,F7 rfl]
    dsimp only
    rw [s4.eq,F7 rfl]
    exact e1
  · unfold a5V
    dsimp only
    rw [s5.eq,F7 rfl]
    unfold S6
    rw [if_neg (by rw [hpo];decide),if_neg (show ¬(a2Y s).Kind=7 from(by show ¬(6:Int)=7;decide)),if_neg (by simp)]
    dsimp only
    rw [s6.eq,F7 rfl]
    rfl
  · intro d hd
    rw [q3] at hd
    rcases List.mem_append.1 hd with h'|h'
    · exact h.cav d h'
    · obtain rfl:=List.mem_singleton.1 h';exact⟨hc,hcl⟩
  · rw [q4,←List.cons_append,List.getLastD_eq_getLast?,List.getLast?_append];rfl
  · rw [q3,List.length_append,List.length_append,h.a5X];rfl
  · rcases List.mem_append.1 hv with h'|h'
    · exact le16.looks (h.nodes v h')
    · obtain rfl:=List.mem_singleton.1 h';exact(s5.le.trans s6.le).looks nd2
  · by_cases e:i < P.l9.length
    · have e2:Q.l9[i]=P.l9[i]:=by simp only [q3];exact List.getElem_append_left e
      rw [e2] at ht ⊢
      rw [a8L (by rw [h.a5X];omega)]
      exact(h.a7x i e ht).le le16 fun _ hg=>List.mem_append_left _ hg
    · have hi2:=hi
      rw [q3,List.length_append] at hi2
      obtain rfl:i=P.l9.length:=by simp at hi2;omega
      have e2:Q.l9[P.l9.length]=⟨true,default,c.E8,x,bx⟩:=by simp only [q3];rw [List.getElem_append_right (by omega)];simp
      rw [e2,a8L (by rw [h.a5X];omega),hlast]
      exact⟨kt2,kt,⟨x,[a2Y s],t⟩,List.mem_append_right _ (List.mem_singleton.2 a8),(s4.le.trans le36).look s3.look,le36.opens s4.opens,a8,hdis⟩
  · rcases List.mem_append.1 hg with h'|h'
    · exact(h.a3F g h').le le16 fun d hd=>by rw [q3];exact List.mem_append_left _ hd
    · obtain rfl:=List.mem_singleton.1 h'
      refine⟨by dsimp only;omega,fun q hq => ?_,(show 1≤8 by decide),⟨⟨true,default,c.E8,x,bx⟩,by rw [q3];exact List.mem_append_right _ (List.mem_singleton.2 rfl),rfl,rfl⟩,⟨kt,hdis,fun hf=>⟨_,s1.sym (le16.free▸hf)⟩⟩,⟨_,hmem,rfl,by dsimp only;omega⟩⟩
      obtain rfl:=List.mem_singleton.1 hq;exact⟨hpo,show(6:Int)≠7 by decide⟩
  · rw [List.map_append,List.nodup_append]
    refine⟨h.nodup,by simp,fun a ha b hb e => ?_⟩
    simp only [List.map_cons,List.map_nil,List.mem_singleton] at hb
    obtain⟨g,hg,rfl⟩:=List.mem_map.1 ha
    obtain⟨y,hy,hy1,hy2⟩:=(h.a3F g hg).box
    have:=s6.ok.b8a (by omega) (le16.b9F hy) hmem (by rw [hy1,e,hb])
    have:=h.G6 y hy
    dsimp only at *
    omega
  · intro y hy;rw [hbx6] at hy;rw [hfr6];exact h3.G6 y hy
  · intro hf y hy;rw [hbx6] at hy;exact h3.a63 (le36.free▸hf) y hy
  · intro y hy
    rcases s6.Z5 y hy with h'|⟨_,h'⟩
    · rcases s5.Z5 y h' with h'|⟨_,h'⟩
      · exact hh2 y h'
      · exact⟨103,by rw [h'];rfl,by decide,by decide⟩
    · exact⟨99,by rw [h',a5Y hpo];rfl,by decide,by decide⟩
  · exact le16.free
abbrev Ring:=B3
abbrev Epo:=p6
def a1G (r:Ring) (n:Int):Option Epo:=r.Live.find? fun e=>decide (e.Number=n)
def a23 (l:List Bnd) (t:List UInt8):Option Bnd:=l.find? fun d=>decide (d.j8=t)
def a1e (f:Nat→Int) (n:Nat):Int:=(((List.range n).map f).find? fun e=>decide (e≠0)).getD 0
theorem a25 (f:Nat→Int) (n:Nat):a1e f (n+1)=if a1e f n≠0 then a1e f n else f n:=by
 unfold a1e
 rw [List.range_succ,List.map_append,List.find?_append]
 cases h:((List.range n).map f).find? fun e=>decide (e≠0) with
 | some e =>
  have:=List.find?_some h
  simp only [ne_eq,decide_not,Bool.not_eq_true',decide_eq_false_iff_not] at this
  simp [this]
 | none =>
  simp only [Option.none_or,Option.getD_none,ne_eq,not_true_eq_false,if_false]
  by_cases h0:f n=0
  ·simp [h0]
  ·simp [h0]
theorem a7A {f:Nat→Int} {n:Nat}:a1e f n=0↔∀ i,i < n→f i=0:=by
 induction n with
 | zero=>exact⟨fun _ i hi=>(by omega),fun _=>rfl⟩
 | succ n ih =>
  rw [a25]
  by_cases h:a1e f n=0
  ·rw [if_neg (by simpa using h)]
   exact⟨fun h2 i hi=>(by rcases Nat.lt_or_ge i n with h3|h3;exact ih.1 h i h3;(obtain rfl:i=n:=by omega);exact h2),fun h2=>h2 n (by omega)⟩
  ·rw [if_pos h]
   exact⟨fun h2=>absurd h2 h,fun h2=>absurd (ih.2 fun i hi=>h2 i (by omega)) h⟩
theorem b6e {f:Nat→Int} {n k:Nat} (hk:k < n) (h:a1e f k=0) (h2:f k≠0):a1e f n=f k:=by
 induction n with
 | zero=>omega
 | succ n ih =>
  rw [a25]
  rcases Nat.lt_or_ge k n with h3|h3
  ·have:=ih h3
   rw [if_pos (by rw [this];exact h2),this]
  ·obtain rfl:k=n:=by omega
   rw [if_neg (by simpa using h)]
def Z9 (a:C7) (b:Y0) (c:Cav) (tag leaf:Tag):Int :=
 if (m8 a tag (D1 c.j8)).2=false then 14 else
 if (C4 a (m8 a tag (D1 c.j8)).1 c.X3).2≠0∨(C4 a (m8 a tag (D1 c.j8)).1 c.X3).1.length≠32 then 14 else
 match a23 b.j4 c.j8 with
 | none=>17
 | some d =>
  if (a1E a (R9 default (C4 a (m8 a tag (D1 c.j8)).1 c.X3).1) c.j8 d.l8).2=false then 20 else
  if U5 a (a1E a (R9 default (C4 a (m8 a tag (D1 c.j8)).1 c.X3).1) c.j8 d.l8).1 leaf b.Request≠(d.Proof,true) then 20 else 0
def a5Z (b:Y0) (d:Bnd):Bool := !(b.l9.any fun c=>c.M1&&decide (c.j8=d.j8))
def a64 (b:Y0):Bool:=b.j4.any (a5Z b)
def thE (a:C7) (b:Y0) (T:List Tag) (i:Nat):Int:=if (b.l9.getD i default).M1 then Z9 a b (b.l9.getD i default) (T.getD i default) (T.getLastD default) else 0
def b3P (a:C7) (b:Y0) (root:Epo):y4×Int :=
 if (X8 a root b.y7 b.l9).2≠0 then (default,19) else
 if a0g a ((X8 a root b.y7 b.l9).1.getLastD default) b.Request≠(b.Proof,true)∨(a1D a (X8 a root b.y7 b.l9).1).2≠0 then (default,19) else
 if a1e (thE a b (X8 a root b.y7 b.l9).1) b.l9.length≠0 then (default,a1e (thE a b (X8 a root b.y7 b.l9).1) b.l9.length) else
 if a64 b then (default,18) else (⟨(a1D a (X8 a root b.y7 b.l9).1).1,(X8 a root b.y7 b.l9).1.getLastD default⟩,0)
def a5g (a:C7) (g:Ring) (b:Y0):y4×Int :=
 if M8 b≠0 then (default,M8 b) else
 match a1G g b.C9 with
 | none=>(default,16)
 | some root=>b3P a b root
theorem c1r {a:C7} {g:Ring} {b:Y0} (h:M8 b≠0):a5g a g b=(default,M8 b):=by unfold a5g;rw [if_pos h]
theorem c0I {a:C7} {g:Ring} {b:Y0} (h:M8 b=0) (h2:a1G g b.C9=none):a5g a g b=(default,16):=by unfold a5g;rw [if_neg (by simpa using h),h2]
theorem b0O {a:C7} {g:Ring} {b:Y0} {root:Epo} (h:M8 b=0) (h2:a1G g b.C9=some root):a5g a g b=b3P a b root:=by unfold a5g;rw [if_neg (by simpa using h),h2]
theorem c2C {a:C7} {b:Y0} {root:Epo} (h:(X8 a root b.y7 b.l9).2≠0):b3P a b root=(default,19):=by unfold b3P;rw [if_pos h]
theorem b0P {a : C7} {b : Y0} {root : Epo} {T : List Tag} (h : X8 a root b.y7 b.l9 = (T, 0)) : b3P a b root =
    if a0g a (T.getLastD default) b.Request≠(b.Proof,true)∨(a1D a T).2≠0 then (default,19) else
    if a1e (thE a b T) b.l9.length≠0 then (default,a1e (thE a b T) b.l9.length) else
    if a64 b then (default,18) else (⟨(a1D a T).1,T.getLastD default⟩,0):=by
  unfold b3P;rw [h];rfl
structure b8b (a:C7) (b:Y0) (c:Cav) (t leaf:Tag):Prop where
 th:∃ key plain d u,m8 a t (D1 c.j8)=(key,true)∧C4 a key c.X3=(plain.l,0)∧a23 b.j4 c.j8=some d∧V2 a plain c.j8 d.l8=some u∧m8 a u (U4 leaf b.Request)=(d.Proof,true)
theorem a65 {l:List UInt8} (h:l.length=32):(R9 (default:Tag) l).l=l:=by
 show l.take 32++(default:Tag).l.drop l.length=l
 rw [List.take_of_length_le (by omega),List.drop_of_length_le (by rw [J7.len];omega),List.append_nil]
theorem a6u (t:Tag):R9 (default:Tag) t.l=t:=J7.ext (a65 t.len)
theorem a7B {a:C7} {b:Y0} {c:Cav} {t leaf:Tag} (hr:S9 b.Request=true):Z9 a b c t leaf=0↔b8b a b c t leaf:=by
 constructor
 ·intro h
  unfold Z9 at h
  split at h
  ·cases h
  ·next h1 =>
   split at h
   ·cases h
   ·next h2 =>
    have h1:(m8 a t (D1 c.j8)).2=true:=by simpa using h1
    have h2:(C4 a (m8 a t (D1 c.j8)).1 c.X3).2=0∧(C4 a (m8 a t (D1 c.j8)).1 c.X3).1.length=32:=by simpa using h2
    split at h
    ·cases h
    ·next d hd =>
     split at h
     ·cases h
     ·next h3 =>
      split at h
      ·cases h
      ·next h4 =>
       have h3:(V2 a (R9 default (C4 a (m8 a t (D1 c.j8)).1 c.X3).1) c.j8 d.l8).isSome=true:=by unfold a1E at h3;exact eq_true_of_ne_false h3
       obtain⟨u,hu⟩:=Option.isSome_iff_exists.1 h3
       have h4:U5 a u leaf b.Request=(d.Proof,true):=by
        have:U5 a (a1E a (R9 default (C4 a (m8 a t (D1 c.j8)).1 c.X3).1) c.j8 d.l8).1 leaf b.Request=(d.Proof,true):=Decidable.not_not.1 h4
        unfold a1E at this;rw [hu] at this;exact this
       unfold U5 at h4
       rw [if_pos hr] at h4
       exact⟨_,_,d,u,Prod.ext a8 h1,Prod.ext (by rw [a65 h2.2]) h2.1,hd,hu,h4⟩
 ·rintro⟨key,plain,d,u,h1,h2,h3,h4,h5⟩
  unfold Z9
  have hp:plain.l.length=32:=plain.len
  rw [h1];dsimp only
  rw [h2];dsimp only
  rw [if_neg (by decide),if_neg (by simp [hp]),h3]
  dsimp only
  unfold a1E U5
  rw [a6u,h4,if_neg (by simp),if_pos hr]
  rw [if_neg (by simp [h5])]
structure b8c (a:C7) (k:Tag) (b:Y0) (T:List Tag):Prop where
 chk:M8 b=0
 walk:O5 (m8 a) k (C5 b.y7 b.l9)=some (k::T)
 a5X:T.length=b.l9.length+1
 nodes:∀ t∈T,(m8 a t G2).2=true
 proof:m8 a (T.getLastD default) (a2J b.Request)=(b.Proof,true)
 a7x:∀ i (h:i < b.l9.length),b.l9[i].M1=true→b8b a b b.l9[i] (T.getD i default) (T.getLastD default)
 extra:a64 b=false
theorem a5e {b:Y0} (h:M8 b=0):a9L b:=by
 unfold M8 at h
 split at h
 ·next h1=>exact absurd h h1
 ·next h1=>exact a4N (by simpa using h1)
theorem a50 {a:C7}:∀ {l:List Tag} {s:List Tag},(∀ t∈l,(m8 a t G2).2=true)→∃ r,l.foldl (Z7 a) (some s)=some (s++r)∧r.length=l.length
 | [],s,_=>⟨[],by simp,rfl⟩
 | t::l,s,h=>by
  rw [List.foldl_cons]
  have:Z7 a (some s) t=some (s ++ [(m8 a t G2).1]):=by
   show(if (m8 a t G2).2 then some (s ++ [(m8 a t G2).1]) else none)=_
   rw [if_pos (h t (by simp))]
  rw [this]
  obtain⟨r,h1,h2⟩:=a50 (a:=a) (l:=l) (s:=s ++ [(m8 a t G2).1]) fun u hu=>h u (by simp [hu])
  exact⟨(m8 a t G2).1::r,by rw [h1,List.append_assoc];rfl,by simp [h2]⟩
theorem a8M {a:C7}:∀ {l:List Tag} {s r:List Tag},l.foldl (Z7 a) (some s)=some r→∀ t∈l,(m8 a t G2).2=true
 | [],_,_,_=>fun t ht=>(by cases ht)
 | t::l,s,r,h=>by
  rw [List.foldl_cons] at h
  cases h2:(m8 a t G2).2 with
  | false =>
   have:Z7 a (some s) t=none:=by
    show(if (m8 a t G2).2 then some (s ++ [(m8 a t G2).1]) else none)=_
    rw [h2];rfl
   rw [this,a8G] at h;cases h
  | true =>
   have:Z7 a (some s) t=some (s ++ [(m8 a t G2).1]):=by
    show(if (m8 a t G2).2 then some (s ++ [(m8 a t G2).1]) else none)=_
    rw [h2];rfl
   rw [this] at h
   intro u hu
   rcases List.mem_cons.1 hu with rfl|hu
   ·exact h2
   ·exact a8M h u hu
theorem a9S {a:C7} {l:List Tag}:(a1D a l).2=0↔∀ t∈l,(m8 a t G2).2=true:=by
 unfold a1D a0I
 constructor
 ·intro h
  split at h
  ·next r hr=>exact a8M hr
  ·cases h
 ·intro h
  obtain⟨r,h1,_⟩:=a50 (s := []) h
  rw [h1]
theorem b3Q {a:C7} {l:List Tag} (h:∀ t∈l,(m8 a t G2).2=true):(a1D a l).1.length=l.length:=by
 obtain⟨r,h1,h2⟩:=a50 (s := []) h
 unfold a1D a0I
 rw [h1];simpa using h2
theorem b2m {a:C7} {root:Epo} {n:Int} {l:List Cav} {T:List Tag} (h1:K6 root.Number n=true) (h2:l.all H7=true) (h:O5 (m8 a) root.Key (C5 n l)=some (root.Key::T)):X8 a root n l=(T,0):=by
 unfold X8;rw [if_neg (by rw [h1];decide),if_neg (by rw [h2];decide),h];rfl
theorem a8N {a:C7} {root:Epo} {n:Int} {l:List Cav} (h:(X8 a root n l).2=0):∃ T,O5 (m8 a) root.Key (C5 n l)=some (root.Key::T)∧T.length=l.length+1∧X8 a root n l=(T,0):=by
 unfold X8 at *
 split at h
 ·cases h
 ·next h1 =>
  split at h
  ·cases h
  ·next h2 =>
   rw [if_neg h1,if_neg h2]
   split at h
   ·next t ht =>
    obtain⟨T,e,hl⟩:=a5T (k:=root.Key) (show(C5 n l).foldl (X7 (m8 a)) (some [root.Key])=some t from ht)
    refine⟨T,by rw [ht,e];rfl,by rw [hl];simp [C5],by rw [e];rfl⟩
   ·cases h
theorem b3R {g:Ring} {n:Int} {root:Epo} (h:a1G g n=some root):root.Number=n:=by
 have:=List.find?_some h;simpa using this
theorem a38 {α:Type} [Inhabited α] {l:List α} {i:Nat} (h:i < l.length):l.getD i default=l[i]:=by
 rw [List.getD_eq_getElem?_getD,List.getElem?_eq_getElem h];rfl
theorem b8d {a:C7} {g:Ring} {b:Y0} {root:Epo} {T:List Tag} (he:a1G g b.C9=some root) (h:b8c a root.Key b T):a5g a g b=(⟨(a1D a T).1,T.getLastD default⟩,0):=by
 have hb:=a5e h.chk
 have hn:=b3R he
 have hr:K6 root.Number b.y7=true:=by have:=hb.num;unfold K6;simp;omega
 have ht:=b2m hr (List.all_eq_true.2 hb.cav) h.walk
 have hq:S9 b.Request=true:=by have:=hb.range;unfold O6 at this;simp only [Bool.and_eq_true] at this;exact this.1
 rw [b0O h.chk he,b0P ht]
 have hf:a1e (thE a b T) b.l9.length=0:=a7A.2 fun i hi=>by
  unfold thE
  rw [a38 hi]
  split
  ·next h3=>exact(a7B hq).2 (h.a7x i hi h3)
  ·rfl
 rw [if_neg (by rw [a9S.2 h.nodes];unfold a0g;rw [if_pos hq,h.proof];simp),if_neg (by rw [hf];simp),if_neg (by rw [h.extra];decide)]
theorem b6f {a:C7} {g:Ring} {b:Y0} (h:(a5g a g b).2=0):∃ root T,a1G g b.C9=some root∧b8c a root.Key b T:=by
 unfold a5g at h
 split at h
 ·next h1=>exact absurd h h1
 ·next h1 =>
  have hc:M8 b=0:=by simpa using h1
  have hb:=a5e hc
  have hq:S9 b.Request=true:=by have:=hb.range;unfold O6 at this;simp only [Bool.and_eq_true] at this;exact this.1
  split at h
  ·cases h
  ·next root he =>
   unfold b3P at h
   split at h
   ·cases h
   ·next h2 =>
    obtain⟨T,hw,hl,ht⟩:=a8N (by simpa using h2)
    rw [ht] at h
    dsimp only at h
    split at h
    ·cases h
    ·next h3 =>
     simp only [not_or,Decidable.not_not] at h3
     split at h
     ·next h4=>exact absurd h h4
     ·next h4 =>
      split at h
      ·cases h
      ·next h5 =>
       have hp:=h3.1
       unfold a0g at hp
       rw [if_pos hq] at hp
       refine⟨root,T,he,hc,hw,hl,a9S.1 h3.2,hp,fun i hi h6 => ?_,by simpa using h5⟩
       have:=a7A.1 (by simpa using h4) i hi
       unfold thE at this
       rw [a38 hi,if_pos h6] at this
       exact(a7B hq).1 this
theorem b0Q {α:Type} (l:List α) (p:α→Bool):decide (0≤idx l p)=l.any p:=by
 rcases Bool.eq_false_or_eq_true (l.any p) with h|h
 ·rw [h]
  rw [List.any_eq_true] at h
  obtain⟨x,hx,hp⟩:=h
  have h2:=List.findIdx_lt_length_of_exists ⟨x,hx,hp⟩
  unfold idx;rw [if_pos h2];simp
 ·rw [h]
  rw [List.any_eq_false] at h
  rw [a3y fun j hj=>by simpa using h _ (List.getElem_mem hj)];rfl
theorem a8O (l:List Bnd) (p:Bnd→Bool):u1 gl Tryz.prog 99 [.v l,.a8z Tryz.prog p] (fun r=>r = .v (idx l p)):=by
 refine u1.intro Tryz.func99 rfl (by kernel_rfl) 19 rfl rfl _ rfl fun C hC hG=>(.sr rfl (.p (.assign (.i rfl) (.nil (.seq (.seq (.Y4 0 rfl fun hl0=>(.region rfl (.mv rfl (.p (.len Tryz.underlying27 (.t rfl) (.p (.move (.i rfl) (.nil (.block (.F4 (α:=Nat) [(0,_),(1,_),(7,_)] (fun k R=>(8,.v (k:Int))::R) (fun k => []) (fun k=>k≤l.length∧∀ j (hj:j < l.length),j < k→p l[j]=false) (fun k=>l.length - k) (0) (.c2 rfl rfl (.cons rfl (.nil _))) ?_ (.c2 rfl rfl (.c2 rfl rfl (.nil _))) (rfl) fun k hF => ?_))))))))))))))))
 ·simp
 obtain⟨h1,h2⟩:=hF
 refine .sr a8 (.p (.lss (.t a8) (.t a8) (.nil (.seq (.o8 (.t a8) (fun hc9 => ?_) (fun hc9 => ?_))))))
 ·refine .skip (.seq (.block (.sr a8 (.mv a8 (.ag a8 (.nil (.sr a8 (.mv a8 (.mv a8 (.mv a8 (.p (.idx P8 Tryz.underlying27 (.t a8) (.t a8) (by omega) (by omega) (.p (.x3 P8 (.t a8) (.p (.a4C a8 (.t a8) (.nil (.cond (.t a8) (fun hc16 => ?_) (fun hc16 => ?_)))))))))))))))))))
  ·refine .sr a8 (.mv a8 (.ag a8 (.nil (.ret ?_))))
   refine⟨_,.r1 a8 (.tmp a8),?_⟩
   rw [a8A (by omega) (by simpa using hc16) h2]
  ·refine .skip (.region a8 (.p (.add (.t a8) (.i a8) (by omega) (by omega) (.mv a8 (.nil ?_)))))
   refine⟨k+1,.c2 rfl rfl (.c2 rfl rfl (.nil _)),rfl,?_,by omega⟩
   refine⟨by omega,fun j hj hjk => ?_⟩;rcases Nat.lt_or_ge j k with h|h;exact h2 j hj h;(obtain rfl:j=k:=by omega);simpa using hc16
 ·refine .exit (.sr a8 (.p (.assign (.i a8) (.nil (.ret ?_)))))
  refine⟨_,.r1 a8 (.tmp a8),?_⟩
  rw [a3y fun j hj=>h2 j hj (by omega)]
theorem a1N (l:List Bnd) (p:Bnd→Bool):u1 gl Tryz.prog 150 [.v l,.a8z Tryz.prog p] (fun r=>r = .v (l.any p)):=by
 refine u1.intro Tryz.func150 rfl (by kernel_rfl) 9 rfl rfl _ rfl fun C hC hG=>(.sr rfl (.p (.assign .b (.nil (.sr rfl (.mv rfl (.mv rfl (.p (.m9 hG (a8O _ _) (.cons (.t rfl) (.cons (.t rfl) .nil)) (.p (.geq (.t rfl) (.i rfl) (.ag rfl (.nil (.ret ?_))))))))))))))
 refine⟨_,.r1 a8 (.tmp a8),?_⟩
 rw [b0Q]
theorem b2n (l:List Pred) (p:Pred→Bool):u1 gl Tryz.prog 210 [.v l,.a8z Tryz.prog p] (fun r=>r = .v (idx l p)):=by
 refine u1.intro Tryz.func210 rfl (by kernel_rfl) 19 rfl rfl _ rfl fun C hC hG=>(.sr rfl (.p (.assign (.i rfl) (.nil (.seq (.seq (.Y4 0 rfl fun hl0=>(.region rfl (.mv rfl (.p (.len Tryz.underlying83 (.t rfl) (.p (.move (.i rfl) (.nil (.block (.F4 (α:=Nat) [(0,_),(1,_),(7,_)] (fun k R=>(8,.v (k:Int))::R) (fun k => []) (fun k=>k≤l.length∧∀ j (hj:j < l.length),j < k→p l[j]=false) (fun k=>l.length - k) (0) (.c2 rfl rfl (.cons rfl (.nil _))) ?_ (.c2 rfl rfl (.c2 rfl rfl (.nil _))) (rfl) fun k hF => ?_))))))))))))))))
 ·simp
 obtain⟨h1,h2⟩:=hF
 refine .sr a8 (.p (.lss (.t a8) (.t a8) (.nil (.seq (.o8 (.t a8) (fun hc9 => ?_) (fun hc9 => ?_))))))
 ·refine .skip (.seq (.block (.sr a8 (.mv a8 (.ag a8 (.nil (.sr a8 (.mv a8 (.mv a8 (.mv a8 (.p (.idx A7 Tryz.underlying83 (.t a8) (.t a8) (by omega) (by omega) (.p (.x3 A7 (.t a8) (.p (.a4C a8 (.t a8) (.nil (.cond (.t a8) (fun hc16 => ?_) (fun hc16 => ?_)))))))))))))))))))
  ·refine .sr a8 (.mv a8 (.ag a8 (.nil (.ret ?_))))
   refine⟨_,.r1 a8 (.tmp a8),?_⟩
   rw [a8A (by omega) (by simpa using hc16) h2]
  ·refine .skip (.region a8 (.p (.add (.t a8) (.i a8) (by omega) (by omega) (.mv a8 (.nil ?_)))))
   refine⟨k+1,.c2 rfl rfl (.c2 rfl rfl (.nil _)),rfl,?_,by omega⟩
   refine⟨by omega,fun j hj hjk => ?_⟩;rcases Nat.lt_or_ge j k with h|h;exact h2 j hj h;(obtain rfl:j=k:=by omega);simpa using hc16
 ·refine .exit (.sr a8 (.p (.assign (.i a8) (.nil (.ret ?_)))))
  refine⟨_,.r1 a8 (.tmp a8),?_⟩
  rw [a3y fun j hj=>h2 j hj (by omega)]
theorem a4S (l:List Pred) (p:Pred→Bool):u1 gl Tryz.prog 189 [.v l,.a8z Tryz.prog p] (fun r=>r = .v (l.any p)):=by
 refine u1.intro Tryz.func189 rfl (by kernel_rfl) 9 rfl rfl _ rfl fun C hC hG=>(.sr rfl (.p (.assign .b (.nil (.sr rfl (.mv rfl (.mv rfl (.p (.m9 hG (b2n _ _) (.cons (.t rfl) (.cons (.t rfl) .nil)) (.p (.geq (.t rfl) (.i rfl) (.ag rfl (.nil (.ret ?_))))))))))))))
 refine⟨_,.r1 a8 (.tmp a8),?_⟩
 rw [b0Q]
theorem b3S (l:List Cav) (p:Cav→Bool):u1 gl Tryz.prog 187 [.v l,.a8z Tryz.prog p] (fun r=>r = .v (idx l p)):=by
 refine u1.intro Tryz.func187 rfl (by kernel_rfl) 19 rfl rfl _ rfl fun C hC hG=>(.sr rfl (.p (.assign (.i rfl) (.nil (.seq (.seq (.Y4 0 rfl fun hl0=>(.region rfl (.mv rfl (.p (.len Tryz.underlying24 (.t rfl) (.p (.move (.i rfl) (.nil (.block (.F4 (α:=Nat) [(0,_),(1,_),(7,_)] (fun k R=>(8,.v (k:Int))::R) (fun k => []) (fun k=>k≤l.length∧∀ j (hj:j < l.length),j < k→p l[j]=false) (fun k=>l.length - k) (0) (.c2 rfl rfl (.cons rfl (.nil _))) ?_ (.c2 rfl rfl (.c2 rfl rfl (.nil _))) (rfl) fun k hF => ?_))))))))))))))))
 ·simp
 obtain⟨h1,h2⟩:=hF
 refine .sr a8 (.p (.lss (.t a8) (.t a8) (.nil (.seq (.o8 (.t a8) (fun hc9 => ?_) (fun hc9 => ?_))))))
 ·refine .skip (.seq (.block (.sr a8 (.mv a8 (.ag a8 (.nil (.sr a8 (.mv a8 (.mv a8 (.mv a8 (.p (.idx T7 Tryz.underlying24 (.t a8) (.t a8) (by omega) (by omega) (.p (.x3 T7 (.t a8) (.p (.a4C a8 (.t a8) (.nil (.cond (.t a8) (fun hc16 => ?_) (fun hc16 => ?_)))))))))))))))))))
  ·refine .sr a8 (.mv a8 (.ag a8 (.nil (.ret ?_))))
   refine⟨_,.r1 a8 (.tmp a8),?_⟩
   rw [a8A (by omega) (by simpa using hc16) h2]
  ·refine .skip (.region a8 (.p (.add (.t a8) (.i a8) (by omega) (by omega) (.mv a8 (.nil ?_)))))
   refine⟨k+1,.c2 rfl rfl (.c2 rfl rfl (.nil _)),rfl,?_,by omega⟩
   refine⟨by omega,fun j hj hjk => ?_⟩;rcases Nat.lt_or_ge j k with h|h;exact h2 j hj h;(obtain rfl:j=k:=by omega);simpa using hc16
 ·refine .exit (.sr a8 (.p (.assign (.i a8) (.nil (.ret ?_)))))
  refine⟨_,.r1 a8 (.tmp a8),?_⟩
  rw [a3y fun j hj=>h2 j hj (by omega)]
theorem a9d (l:List Cav) (p:Cav→Bool):u1 gl Tryz.prog 147 [.v l,.a8z Tryz.prog p] (fun r=>r = .v (l.any p)):=by
 refine u1.intro Tryz.func147 rfl (by kernel_rfl) 9 rfl rfl _ rfl fun C hC hG=>(.sr rfl (.p (.assign .b (.nil (.sr rfl (.mv rfl (.mv rfl (.p (.m9 hG (b3S _ _) (.cons (.t rfl) (.cons (.t rfl) .nil)) (.p (.geq (.t rfl) (.i rfl) (.ag rfl (.nil (.ret ?_))))))))))))))
 refine⟨_,.r1 a8 (.tmp a8),?_⟩
 rw [b0Q]
theorem b9K (n:Nat):decide ((8:Int) < (n:Int))=decide (8 < n):=decide_eq_decide.2 (by omega)
theorem b8e (n:Nat):decide ((64:Int) < (n:Int))=decide (64 < n):=decide_eq_decide.2 (by omega)
theorem c0J (n:Nat):decide ((n:Int) < 1)=decide (n < 1):=decide_eq_decide.2 (by omega)
theorem b2o (n:Nat):decide ((1024:Int) < (n:Int))=decide (1024 < n):=decide_eq_decide.2 (by omega)
theorem c1s (d:Bnd):u1 gl Tryz.prog 186 [.v d] (fun r=>r = .v (a1L d)):=by
 refine u1.intro Tryz.func186 rfl (by kernel_rfl) 7 rfl rfl _ rfl fun C hC hG=>(.sr rfl (.h (.box (.t rfl) fun b1 => .p (.assign .b (.nil (.sr rfl (.p (.x4 p5.l1 a1t rfl (.t rfl) (.p (.K0 (fun x=>x.l8) a4g (.t rfl) .z (fun _=>rfl) (.p (.len Tryz.underlying83 (.t rfl) (.p (.gtr (.t rfl) (.i rfl) (.ag rfl (.nil (.ret ?_)))))))))))))))))
 refine⟨_,.r1 a8 (.tmp a8),?_⟩
 exact congrArg AV.v (b9K _)
theorem b8f (b:Y0) (hl:b.l9.length≤1000000):u1 gl Tryz.prog 146 [.v b] (fun r=>r = .v (S2 b)):=by
 refine u1.intro Tryz.func146 rfl (by kernel_rfl) 31 rfl rfl _ rfl fun C hC hG=>(.sr rfl (.h (.box (.t rfl) fun b1 => .p (.assign .b (.nil (.seq (.B0 hC .z (.Q5 1 rfl .z ?_))))))))
 have hfl:=a0P b.l9
 refine .draw (by kernel_rfl) 9 [[],[(4,0)],[(5,1)],[],[(7,3)],[(8,4)],[(9,5)],[(6,2),(10,6)],[(11,7)]] a8 (by kernel_rfl) a8 ?_
 refine⟨_,j6.m0 m6.l3 (fun x=>x.l9) a0m a8 (fun _=>a8) (.t a8) a8,?_⟩
 refine⟨_,j6.x3 a3f (.t a8) a8,?_⟩
 refine⟨_,j6.len Tryz.underlying24 (.t a8) a8,?_⟩
 refine⟨_,j6.m0 m6.l3 (fun x=>x.l9) a0m a8 (fun _=>a8) (.t a8) a8,?_⟩
 refine⟨_,j6.x3 a3f (.t a8) a8,?_⟩
 refine⟨_,j6.m9 hG (b2c _ hl) (.cons (.t a8) .nil) a8,?_⟩
 refine⟨_,j6.len Tryz.underlying83 (.t a8) a8,?_⟩
 refine⟨_,j6.sub (.t a8) (.t a8) (by omega) (by omega) a8,?_⟩
 refine⟨_,j6.assign (.t a8) a8,?_⟩
 show F8 _ _ _ _ _ _ ((3,_)::(11,_)::(10,_)::(9,_)::(8,_)::(7,_)::(6,_)::(5,_)::(4,_)::_) _
 refine .nil (.sr a8 (.p (.m0 m6.l3 (fun x=>x.l9) a0m a8 (fun _=>a8) (.t a8) (.p (.x3 a3f (.t a8) (.p (.len Tryz.underlying24 (.t a8) (.p (.gtr (.t a8) (.i a8) (.mv a8 (.go 16 a8 (.t a8) (fun hg17 => .move (.t a8) a8) (.go 16 a8 (.t a8) (fun hg18 => .gtr (.q a8 hg18) (.i a8) a8) (.p (.E0 (.t a8) (fun hp=>(.q a8 hp)) (.mv a8 (.go 20 a8 (.t a8) (fun hg21 => .m0 m6.l5 (fun x=>x.j4) R6 a8 (fun _=>a8) (.t a8) a8) (.go 20 a8 (.t a8) (fun hg22 => .x3 a3w (.q a8 hg22) a8) (.go 20 a8 (.t a8) (fun hg23 => .len Tryz.underlying27 (.q a8 hg23) a8) (.go 20 a8 (.t a8) (fun hg24 => .gtr (.q a8 hg24) (.i a8) a8) (.p (.E0 (.t a8) (fun hp=>(.q a8 hp)) (.mv a8 (.go 26 a8 (.t a8) (fun hg27 => .m0 m6.l5 (fun x=>x.j4) R6 a8 (fun _=>a8) (.t a8) a8) (.go 26 a8 (.t a8) (fun hg28 => .x3 a3w (.q a8 hg28) a8) (.go 26 a8 (.t a8) (fun hg29 => .m9 hG (a1N _ _) (.cons (.q a8 hg29) (.cons (.a9G hG (fun x=>c1s x)) .nil)) a8) ?_)))))))))))))))))))))))))
 refine .p (.E0 (.t a8) (fun hp=>(.q a8 hp)) (.ag a8 (.nil (.ret ?_))))
 refine⟨_,.r1 a8 (.tmp a8),?_⟩
 refine congrArg AV.v ?_
 unfold S2 a09
 rw [b8e,b9K]
theorem c1t (p:Pred):u1 gl Tryz.prog 190 [.v p] (fun r=>r = .v (!A5 p)):=by
 refine u1.intro Tryz.func190 rfl (by kernel_rfl) 6 rfl rfl _ rfl fun C hC hG=>(.sr rfl (.h (.box (.t rfl) fun b1 => .p (.assign .b (.nil (.sr rfl (.p (.I4 A7 (.t rfl) .z (.p (.m9 hG (a4L _) (.cons (.t rfl) .nil) (.p (.not (.t rfl) (.ag rfl (.nil (.ret ?_)))))))))))))))
 refine⟨_,.r1 a8 (.tmp a8),?_⟩
 rfl
theorem b2p (d:Bnd):u1 gl Tryz.prog 151 [.v d] (fun r=>r = .v (a3n d)):=by
 refine u1.intro Tryz.func151 rfl (by kernel_rfl) 18 rfl rfl _ rfl fun C hC hG=>(.sr rfl (.h (.box (.t rfl) fun b1 => .p (.assign .b (.nil (.sr rfl (.p (.x4 p5.l0 a0Z rfl (.t rfl) (.p (.K0 (fun x=>x.j8) P1 (.t rfl) .z (fun _=>rfl) (.p (.len Tryz.underlying86 (.t rfl) (.p (.lss (.t rfl) (.i rfl) (.mv rfl (.go 7 rfl (.t rfl) (fun hg8 => .x4 p5.l0 a0Z rfl (.t rfl) rfl) (.go 7 rfl (.t rfl) (fun hg9 => .K0 (fun x=>x.j8) P1 (.q rfl hg9) .z (fun _=>rfl) rfl) (.go 7 rfl (.t rfl) (fun hg10 => .len Tryz.underlying86 (.q rfl hg10) rfl) (.go 7 rfl (.t rfl) (fun hg11 => .gtr (.q rfl hg11) (.i rfl) rfl) (.p (.E0 (.t rfl) (fun hp=>(.q rfl hp)) (.mv rfl (.go 13 rfl (.t rfl) (fun hg14 => .x4 p5.l1 a1t rfl (.t rfl) rfl) (.go 13 rfl (.t rfl) (fun hg15 => .K0 (fun x=>x.l8) a4g (.q rfl hg15) .z (fun _=>rfl) rfl) ?_))))))))))))))))))))))))
 refine .go 13 a8 (.t a8) (fun hg16 => .m9 hG (a4S _ _) (.cons (.q a8 hg16) (.cons (.a9G hG (fun x=>c1t x)) .nil)) a8) (.p (.E0 (.t a8) (fun hp=>(.q a8 hp)) (.ag a8 (.nil (.ret ?_)))))
 refine⟨_,.r1 a8 (.tmp a8),?_⟩
 refine congrArg AV.v ?_
 unfold a3n
 rw [c0J,b2o]
theorem b8g (p:Pred):u1 gl Tryz.prog 191 [.v p] (fun r=>r = .v (decide (p.Kind=7))):=by
 refine u1.intro Tryz.func191 rfl (by kernel_rfl) 6 rfl rfl _ rfl fun C hC hG=>(.sr rfl (.h (.box (.t rfl) fun b1 => .p (.assign .b (.nil (.sr rfl (.p (.x4 j3.l0 U8 rfl (.t rfl) (.p (.K0 (fun x=>x.Kind) D0 (.t rfl) .z (fun _=>rfl) (.p (.D4 (.t rfl) (.i rfl) (.ag rfl (.nil (.ret ?_)))))))))))))))
 refine⟨_,.r1 a8 (.tmp a8),?_⟩
 rfl
theorem b9L (d:Bnd):u1 gl Tryz.prog 152 [.v d] (fun r=>r = .v (a3E d)):=by
 refine u1.intro Tryz.func152 rfl (by kernel_rfl) 6 rfl rfl _ rfl fun C hC hG=>(.sr rfl (.h (.box (.t rfl) fun b1 => .p (.assign .b (.nil (.sr rfl (.p (.x4 p5.l1 a1t rfl (.t rfl) (.p (.K0 (fun x=>x.l8) a4g (.t rfl) .z (fun _=>rfl) (.p (.m9 hG (a4S _ _) (.cons (.t rfl) (.cons (.a9G hG (fun x=>b8g x)) .nil)) (.ag rfl (.nil (.ret ?_)))))))))))))))
 refine⟨_,.r1 a8 (.tmp a8),?_⟩
 rfl
theorem b8h (x d:Bnd):u1 gl Tryz.prog 192 [.v x,.p d] (fun r=>r = .v (decide (x.j8=d.j8))):=by
 refine u1.intro Tryz.func192 rfl (by kernel_rfl) 9 rfl rfl _ rfl fun C hC hG=>(.sr rfl (.h (.box (.t rfl) fun b2 => .p (.assign .b (.nil (.sr rfl (.p (.x4 p5.l0 a0Z rfl (.t rfl) (.p (.K0 (fun x=>x.j8) P1 (.t rfl) .z (fun _=>rfl) (.p (.m0 p5.l0 (fun x=>x.j8) a0Z rfl (fun _=>rfl) (.t rfl) (.p (.x3 P1 (.t rfl) (.p (.m9 hG (a05 _ _) (.cons (.t rfl) (.cons (.t rfl) .nil)) (.ag rfl (.nil (.ret ?_)))))))))))))))))))
 refine⟨_,.r1 a8 (.tmp a8),?_⟩
 rfl
theorem b0R {l:List Bnd} {k:Nat} (h:k≤l.length) (h2:U6 l k=true):a3o l=true:=by
 unfold a3o U6 at *
 rw [List.any_eq_true] at h2 ⊢
 obtain⟨i,hi,h3⟩:=h2
 exact⟨i,List.mem_range.2 (by have:=List.mem_range.1 hi;omega),h3⟩
theorem b9M (l:List Bnd):u1 gl Tryz.prog 153 [.v l] (fun r=>r = .v (a3o l)):=by
 refine u1.intro Tryz.func153 rfl (by kernel_rfl) 18 rfl rfl _ rfl fun C hC hG=>(.sr rfl (.p (.assign .b (.nil (.seq (.seq (.Y4 0 rfl fun hl0=>(.region rfl (.mv rfl (.p (.len Tryz.underlying27 (.t rfl) (.p (.move (.i rfl) (.nil (.block (.F4 (α:=Nat) [(0,_),(5,_),(6,_)] (fun k R=>(7,.v (k:Int))::R) (fun k => []) (fun k=>k≤l.length∧U6 l k=false) (fun k=>l.length - k) (0) (.c2 rfl rfl (.cons rfl (.nil _))) ?_ (.c2 rfl rfl (.c2 rfl rfl (.nil _))) (rfl) fun k hF => ?_))))))))))))))))
 ·exact⟨Nat.zero_le _,a8⟩
 obtain⟨h1,h2⟩:=hF
 refine .sr a8 (.p (.lss (.t a8) (.t a8) (.nil (.seq (.o8 (.t a8) (fun hc8 => ?_) (fun hc8 => ?_))))))
 ·refine .skip (.seq (.block (.sr a8 (.mv a8 (.p (.idx P8 Tryz.underlying27 (.t a8) (.t a8) (by omega) (by omega) (.p (.x3 P8 (.t a8) (.h (.alloc P8 fun b4 => .ag a8 (.n (.C8 P8 (.t a8) (.t a8) .z (.nil (.seq (.B0 hC .z (.Q5 4 a8 .z (.drop (.region a8 (.mv a8 (.mv a8 (.p (.b9h P8 Tryz.underlying27 (.t a8) (.t a8) (by omega) (by omega) (.p (.b0s hG (fun x=>b8h x _) (.cons (.t a8) .nil) (.p (.m9 hG (a1N _ _) (.cons (.t a8) (.cons (.t a8) .nil)) (.nil (.cond (.t a8) (fun hc16 => ?_) (fun hc16 => ?_)))))))))))))))))))))))))))))
  ·refine .sr a8 (.p (.assign .b (.nil (.ret ?_))))
   refine⟨_,.r1 a8 (.tmp a8),?_⟩
   rw [b0R (k:=k+1) (by omega) (by rw [a34 l k (by omega)];exact Bool.or_eq_true_iff.2 (Or.inr hc16))]
  ·refine .skip (.region a8 (.p (.add (.t a8) (.i a8) (by omega) (by omega) (.mv a8 (.nil ?_)))))
   refine⟨k+1,.c2 rfl rfl (.c2 rfl rfl (.nil _)),rfl,?_,by omega⟩
   exact⟨by omega,by rw [a34 l k (by omega),h2];exact hc16⟩
 ·refine .exit (.sr a8 (.p (.assign .b (.nil (.ret ?_)))))
  refine⟨_,.r1 a8 (.tmp a8),?_⟩
  obtain rfl:k=l.length:=by omega
  exact congrArg AV.v h2.symm
theorem b8i (c:Cav):u1 gl Tryz.prog 148 [.v c] (fun r=>r = .v (!H7 c)):=by
 refine u1.intro Tryz.func148 rfl (by kernel_rfl) 6 rfl rfl _ rfl fun C hC hG=>(.sr rfl (.h (.box (.t rfl) fun b1 => .p (.assign .b (.nil (.sr rfl (.p (.I4 T7 (.t rfl) .z (.p (.m9 hG (a8I _) (.cons (.t rfl) .nil) (.p (.not (.t rfl) (.ag rfl (.nil (.ret ?_)))))))))))))))
 refine⟨_,.r1 a8 (.tmp a8),?_⟩
 rfl
theorem b2q {b:Y0} (h:(!S9 b.Request||decide (b.C9 < 1)||decide (1000 < b.C9)||decide (b.y7 < 1)||decide (1073741824 < b.y7))=true):O6 b=false:=by
 simp only [Bool.or_eq_true,Bool.not_eq_true',decide_eq_true_eq] at h
 unfold O6
 rcases h with (((h|h)|h)|h)|h
 ·rw [h];rfl
 all_goals (cases S9 b.Request<;>simp<;>omega)
theorem a0Q {b:Y0} (h:(!S9 b.Request||decide (b.C9 < 1)||decide (1000 < b.C9)||decide (b.y7 < 1)||decide (1073741824 < b.y7))=false):O6 b=true:=by
 simp only [Bool.or_eq_false_iff,Bool.not_eq_false',decide_eq_false_iff_not] at h
 unfold O6
 rw [h.1.1.1.1];simp;omega
theorem b9N (b:Y0) (hl:b.l9.length≤1000000):u1 gl Tryz.prog 87 [.v b] (fun r=>r = .v (F6 b)):=by
 refine u1.intro Tryz.func87 rfl (by kernel_rfl) 48 rfl rfl _ rfl fun C hC hG=>(.sr rfl (.h (.box (.t rfl) fun b1 => .p (.assign (.i rfl) (.nil (.seq (.block (.seq (.B0 hC .z (.Q5 1 rfl .z (.region rfl (.p (.m0 m6.l0 (fun x=>x.Request) a3O rfl (fun _=>rfl) (.t rfl) (.p (.x3 a3V (.t rfl) (.p (.m9 hG (b3H _) (.cons (.t rfl) .nil) (.p (.not (.t rfl) (.mv rfl (.go 8 rfl (.t rfl) (fun hg9 => .m0 m6.l1 (fun x=>x.C9) a5B rfl (fun _=>rfl) (.t rfl) rfl) (.go 8 rfl (.t rfl) (fun hg10 => .x3 D0 (.q rfl hg10) rfl) (.go 8 rfl (.t rfl) (fun hg11 => .lss (.q rfl hg11) (.i rfl) rfl) ?_)))))))))))))))))))))))
 refine .p (.E0 (.t a8) (fun hp=>(.q a8 hp)) (.mv a8 (.go 13 a8 (.t a8) (fun hg14 => .m0 m6.l1 (fun x=>x.C9) a5B a8 (fun _=>a8) (.t a8) a8) (.go 13 a8 (.t a8) (fun hg15 => .x3 D0 (.q a8 hg15) a8) (.go 13 a8 (.t a8) (fun hg16 => .gtr (.q a8 hg16) (.i a8) a8) (.p (.E0 (.t a8) (fun hp=>(.q a8 hp)) (.mv a8 (.go 18 a8 (.t a8) (fun hg19 => .m0 m6.l2 (fun x=>x.y7) a5C a8 (fun _=>a8) (.t a8) a8) (.go 18 a8 (.t a8) (fun hg20 => .x3 D0 (.q a8 hg20) a8) (.go 18 a8 (.t a8) (fun hg21 => .lss (.q a8 hg21) (.i a8) a8) (.p (.E0 (.t a8) (fun hp=>(.q a8 hp)) (.mv a8 (.go 23 a8 (.t a8) (fun hg24 => .m0 m6.l2 (fun x=>x.y7) a5C a8 (fun _=>a8) (.t a8) a8) (.go 23 a8 (.t a8) (fun hg25 => .x3 D0 (.q a8 hg25) a8) (.go 23 a8 (.t a8) (fun hg26 => .gtr (.q a8 hg26) (.i a8) a8) (.p (.E0 (.t a8) (fun hp=>(.q a8 hp)) (.ag a8 (.nil (.cond (.t a8) (fun hc3 => ?_) (fun hc3 => ?_)))))))))))))))))))))))
 ·refine .sr a8 (.p (.assign (.i a8) (.nil (.ret ?_))))
  refine⟨_,.r1 a8 (.tmp a8),?_⟩
  unfold F6
  rw [if_pos (b2q hc3)]
 ·refine .sr a8 (.p (.x3 a0d (.t a8) (.p (.m9 hG (b8f _ hl) (.cons (.t a8) .nil) (.ag a8 (.nil (.cond (.t a8) (fun hc28 => ?_) (fun hc28 => ?_))))))))
  ·refine .sr a8 (.p (.assign (.i a8) (.nil (.ret ?_))))
   refine⟨_,.r1 a8 (.tmp a8),?_⟩
   unfold F6
   rw [if_neg (by rw [a0Q hc3];decide),if_pos hc28]
  ·refine .sr a8 (.p (.m0 m6.l3 (fun x=>x.l9) a0m a8 (fun _=>a8) (.t a8) (.p (.x3 a3f (.t a8) (.p (.m9 hG (a9d _ _) (.cons (.t a8) (.cons (.a9G hG (fun x=>b8i x)) .nil)) (.mv a8 (.go 35 a8 (.t a8) (fun hg36 => .m0 m6.l5 (fun x=>x.j4) R6 a8 (fun _=>a8) (.t a8) a8) (.go 35 a8 (.t a8) (fun hg37 => .x3 a3w (.q a8 hg37) a8) (.go 35 a8 (.t a8) (fun hg38 => .m9 hG (a1N _ _) (.cons (.q a8 hg38) (.cons (.a9G hG (fun x=>b2p x)) .nil)) a8) (.p (.E0 (.t a8) (fun hp=>(.q a8 hp)) (.ag a8 (.nil (.cond (.t a8) (fun hc31 => ?_) (fun hc31 => ?_))))))))))))))))
   ·refine .sr a8 (.p (.assign (.i a8) (.nil (.ret ?_))))
    refine⟨_,.r1 a8 (.tmp a8),?_⟩
    unfold F6
    rw [if_neg (by rw [a0Q hc3];decide),if_neg (by rw [hc28];decide),if_pos hc31]
   ·refine .sr a8 (.p (.m0 m6.l5 (fun x=>x.j4) R6 a8 (fun _=>a8) (.t a8) (.p (.x3 a3w (.t a8) (.p (.m9 hG (a1N _ _) (.cons (.t a8) (.cons (.a9G hG (fun x=>b9L x)) .nil)) (.ag a8 (.nil (.cond (.t a8) (fun hc40 => ?_) (fun hc40 => ?_))))))))))
    ·refine .sr a8 (.p (.assign (.i a8) (.nil (.ret ?_))))
     refine⟨_,.r1 a8 (.tmp a8),?_⟩
     unfold F6
     rw [if_neg (by rw [a0Q hc3];decide),if_neg (by rw [hc28];decide),if_neg (by rw [hc31];decide),if_pos hc40]
    ·refine .sr a8 (.p (.m0 m6.l5 (fun x=>x.j4) R6 a8 (fun _=>a8) (.t a8) (.p (.x3 a3w (.t a8) (.p (.m9 hG (b9M _) (.cons (.t a8) .nil) (.ag a8 (.nil (.cond (.t a8) (fun hc44 => ?_) (fun hc44 => ?_))))))))))
     ·refine .sr a8 (.p (.assign (.i a8) (.nil (.ret ?_))))
      refine⟨_,.r1 a8 (.tmp a8),?_⟩
      unfold F6
      rw [if_neg (by rw [a0Q hc3];decide),if_neg (by rw [hc28];decide),if_neg (by rw [hc31];decide),if_neg (by rw [hc40];decide),if_pos hc44]
     ·refine .skip (.sr a8 (.p (.assign (.i a8) (.nil (.ret ?_)))))
      refine⟨_,.r1 a8 (.tmp a8),?_⟩
      unfold F6
      rw [if_neg (by rw [a0Q hc3];decide),if_neg (by rw [hc28];decide),if_neg (by rw [hc31];decide),if_neg (by rw [hc40];decide),if_neg (by rw [hc44];decide)]
end Go.Proofs.YtmmclghiidoldaaGreatDoor
