/- Plain Lean over any program, and walks of this seat's functions: contracts, each proved once (part 5). -/
import Derived.Test.YtmmclghiidoldaaGreatDoorZ4
set_option maxRecDepth 1000000
set_option synthInstance.maxSize 1000000
set_option synthInstance.maxHeartbeats 10000000
set_option linter.unusedVariables false
set_option linter.unusedSimpArgs false
namespace Go.Proofs.YtmmclghiidoldaaGreatDoor
open Go.Proofs.Tryz
open Go.Fl Go.Ab Go.Mac Go.Sha
theorem a9I (s:Y4) (b:List UInt8) (hs:s.l.length≤1000) (hb:b.length≤1000000):p4 gl prog 92 [.v s,.v b] (fun r=>r = .v (s.l++b)):=by
 refine p4.jn func92 (by kernel_rfl) 9 rfl fun C hC hG => ?_
 refine .q 7 hG ?_
 refine .h (.W9 underlying9 underlying86 underlying5 (.t a8) fun w6 => ?_)
 refine .q 1 hG ?_
 refine .ap (by omega) (by omega) fun w8 => ?_
 refine .q 2 hG ?_
 refine .u0 hC .z (.as 4 a8 .z ?_)
 refine .q 1 hG ?_
 refine .e1 a8 a8 ?_
 rfl
theorem b8w (e n:Int):p4 gl prog 89 [.v e,.v n] (fun r=>r = .v (J7 e n)):=by
 refine p4.jn func89 (by kernel_rfl) 19 rfl fun C hC hG => ?_
 refine .q 23 hG ?_
 refine .e1 a8 a8 ?_
 rfl
theorem b6u (n:Int) (h0:0≤n) (h1:n≤281474976710656):p4 gl prog 90 [.v n] (fun r=>r = .v (a1b n)):=by
 have hlen:=B1 (n:=n.toNat) (by omega)
 refine p4.jn func90 (by kernel_rfl) 12 rfl fun C hC hG => ?_
 refine .q 7 hG ?_
 refine .p (.o8 hG ((a1x _ _ (by decide) (by omega) (by omega)).b8k) (.cons .b3q (.cons (.t a8) .nil)) ?_)
 refine .q 9 hG ?_
 refine .p (.o8 hG (a9I _ _ (by decide) (by simp;omega)) (.cons (.s [109,105,110,116] (by decide) (by decide)) (.cons (.t a8) .nil)) ?_)
 refine .q 3 hG ?_
 refine .e1 a8 a8 ?_
 rfl
theorem b3X (n:Int) (h0:0≤n) (h1:n≤281474976710656):p4 gl prog 71 [.v n] (fun r=>r = .v (a1b n)):=by
 have hlen:=B1 (n:=n.toNat) (by omega)
 refine p4.jn func71 (by kernel_rfl) 6 rfl fun C hC hG => ?_
 refine .q 7 hG ?_
 refine .k hG (F3 _ (by omega) (by omega)) (.p (.o8 hG (a4E _ _ (by decide) (by omega)) (.cons (.s [109,105,110,116] (by decide) (by decide)) (.cons (.t a8) .nil)) ?_))
 refine .q 3 hG ?_
 refine .e1 a8 a8 ?_
 rfl
theorem a33 (c:Cav):(W4 c).1.length≤2100:=by
 unfold W4;split
 ·next h=>exact a2e h
 ·simp
theorem a11 (p:Pred):(U8 p).1.length≤24:=by
 unfold U8;split
 ·next h=>exact H5 (O1 h)
 ·simp
theorem b6v (c:Cav):p4 gl prog 110 [.v c] (fun r=>r = .v (a2D c)):=by
 have hlen:=a33 c
 refine p4.jn func110 (by kernel_rfl) 12 rfl fun C hC hG => ?_
 refine .q 3 hG fun b1 => ?_
 refine .q 5 hG ?_
 refine .k hG (a9H _) ?_
 refine .q 9 hG ?_
 refine .p (.o8 hG (a4E _ _ (by decide) (by omega)) (.cons (.s [99,97,118,101,97,116] (by decide) (by decide)) (.cons (.t a8) .nil)) ?_)
 refine .q 3 hG ?_
 refine .e1 a8 a8 ?_
 rfl
theorem b3Y (t:List UInt8) (h:t.length≤1000000):p4 gl prog 111 [.v t] (fun r=>r = .v (D1 t)):=by
 refine p4.jn func111 (by kernel_rfl) 5 rfl fun C hC hG => ?_
 refine .q 7 hG ?_
 refine .p (.o8 hG (a4E _ _ (by decide) (by omega)) (.cons (.s [115,101,97,108] (by decide) (by decide)) (.cons (.t a8) .nil)) ?_)
 refine .q 3 hG ?_
 refine .e1 a8 a8 ?_
 rfl
theorem a7s (t:List UInt8) (h:t.length≤1000000):p4 gl prog 144 [.v t] (fun r=>r = .v (a0v t)):=by
 refine p4.jn func144 (by kernel_rfl) 5 rfl fun C hC hG => ?_
 refine .q 7 hG ?_
 refine .p (.o8 hG (a4E _ _ (by decide) (by omega)) (.cons (.s [103,114,97,110,116] (by decide) (by decide)) (.cons (.t a8) .nil)) ?_)
 refine .q 3 hG ?_
 refine .e1 a8 a8 ?_
 rfl
theorem a8H (p:Pred):p4 gl prog 145 [.v p] (fun r=>r = .v (W5 p)):=by
 have hlen:=a11 p
 refine p4.jn func145 (by kernel_rfl) 12 rfl fun C hC hG => ?_
 refine .q 3 hG fun b1 => ?_
 refine .q 5 hG ?_
 refine .k hG (a5L _) ?_
 refine .q 9 hG ?_
 refine .p (.o8 hG (a4E _ _ (by decide) (by omega)) (.cons (.s [99,111,110,100,105,116,105,111,110] (by decide) (by decide)) (.cons (.t a8) .nil)) ?_)
 refine .q 3 hG ?_
 refine .e1 a8 a8 ?_
 rfl
theorem b5u (r:Rq):p4 gl prog 104 [.v r] (fun x=>x = .v (U5 r)):=by
 refine p4.jn func104 (by kernel_rfl) 21 rfl fun C hC hG => ?_
 refine .q 3 hG fun b1 => ?_
 refine .q 25 hG ?_
 refine .e1 a8 a8 ?_
 rfl
theorem b3Z (r:Rq):p4 gl prog 96 [.v r] (fun x=>x = .v (U5 r)):=by
 refine p4.jn func96 (by kernel_rfl) 21 rfl fun C hC hG => ?_
 refine .q 3 hG fun b1 => ?_
 refine .q 25 hG ?_
 refine .e1 a8 a8 ?_
 rfl
theorem b2k {r:Rq} (h:U5 r=true):(a1c r).length≤14:=by
 obtain⟨g0,g1,n0,n1⟩:=a1d h
 have l1:=B1 (n:=r.Gate.toNat) (by omega)
 have l2:=B1 (n:=r.E0.toNat) (by omega)
 unfold a1c;rw [List.length_append];omega
theorem a4M (r:Rq) (h:U5 r=true):E4 gl prog 135 [.v r] [] (fun x Hs=>∃ u,x = .raw u∧Hs = [.own 5 u (a1c r)]):=by
 obtain⟨g0,g1,n0,n1⟩:=a1d h
 have l1:=B1 (n:=r.Gate.toNat) (by omega)
 have l2:=B1 (n:=r.E0.toNat) (by omega)
 refine E4.P8 func135 rfl (by kernel_rfl) 10 rfl rfl _ rfl _ rfl fun C hC hG => ?_
 refine .q 3 hG fun b1 => ?_
 refine .q 3 hG ?_
 refine .y6 hC .z (.L6 1 a8 .z (.a7h (by kernel_rfl) 8 [[],[(3,0)],[(4,1)],[],[(6,3)],[(7,4)],[(5,2),(8,5)],[(9,6)]] [2,6,7] a8 (by kernel_rfl) a8 (by kernel_rfl) (by decide) ?_))
 refine⟨_,fun H=>j6.A7 u3.l0 (fun x=>x.Gate) b3a a8 (fun _=>a8) (.t a8) a8,?_⟩
 refine⟨_,fun H=>j6.G6 P5 (.t a8) a8,?_⟩
 refine .inl ?_
 refine⟨_,fun H=>j6.A7 u3.l1 (fun x=>x.E0) a9Y a8 (fun _=>a8) (.t a8) a8,?_⟩
 refine⟨_,fun H=>j6.G6 P5 (.t a8) a8,?_⟩
 refine⟨_,fun H=>j6.o8 hG (F3 _ (by omega) (by omega)) (.cons (.t a8) .nil) a8,?_⟩
 refine .inl (.inl ?_)
 refine A0.a6a hG (a2U _ (by omega) (by omega)) (.cons (.t rfl) .nil) fun r5 Hs5 hr5 => ?_
 obtain⟨u5,rfl,rfl⟩:=hr5
 refine A0.append P3 (.inl ⟨_,underlying86⟩) rfl .z (.v (.t rfl)) (by omega) (by omega) (fun w9 => ?_) rfl
 refine A0.ofP (j6.assign (.t rfl) ?_)
 show D0 _ _ _ _ _ [] ((2,_)::(9,_)::(8,_)::(7,_)::(6,_)::(5,_)::(4,_)::(3,_)::_) _
 refine .q 2 hG ?_
 refine .e1 a8 a8 ?_
 refine⟨_,.cons .z (.nil),?_⟩
 exact⟨_,a8,a8⟩
theorem b4a (leaf:Tag) (r:Rq) (h:U5 r=true):p4 gl prog 136 [.v leaf,.v r] (fun x=>x = .v (W6 leaf r)):=by
 obtain⟨g0,g1,n0,n1⟩:=a1d h
 have l1:=B1 (n:=r.Gate.toNat) (by omega)
 have l2:=B1 (n:=r.E0.toNat) (by omega)
 have hlb:=b2k h
 refine p4.jn func136 (by kernel_rfl) 12 rfl fun C hC hG => ?_
 refine .q 3 hG fun b2 => ?_
 refine .q 1 hG fun b3 => ?_
 refine .q 3 hG ?_
 refine .y6 hC .z1 (.L6 2 a8 .z1 (.y6 hC .z (.L6 3 a8 .z (.a7h (by kernel_rfl) 8 [[],[],[(5,0),(6,1)],[],[(8,3)],[(7,2),(9,4)],[(10,5)],[(11,6)]] [0,2,5,6,7] a8 (by kernel_rfl) a8 (by kernel_rfl) (by decide) (.inl ?_)))))
 refine⟨_,fun H=>j6.O6 (by decide) M6 (.t a8) a8,?_⟩
 refine .inl ?_
 refine⟨_,fun H=>j6.G6 a8v (.t a8) a8,?_⟩
 refine⟨_,fun H=>j6.o8 hG ((a4M _ h).b0q) (.cons (.t a8) .nil) a8,?_⟩
 refine .inl (.inl (.inl ?_))
 refine A0.buildSlice (α:=UInt8) ty5 underlying86 .nil rfl (by decide) fun b5 => ?_
 refine A0.append P3 (.inl ⟨_,underlying86⟩) rfl .z (.v (.t rfl)) (by simp) (by simp) (fun w7 => ?_) rfl
 refine A0.append P3 (.inl ⟨_,underlying86⟩) rfl .z (.v (.t rfl)) (by simp<;>omega) (by simp<;>omega) (fun w10 => ?_) rfl
 refine A0.c1p hG (a9v _ _ (by decide) (by simp [I8.len];omega)) (.cons (.e (.s [98,105,110,100] (by decide) (by decide))) (.cons (.own rfl .z) .nil)) (by rintro _ _ ⟨u,rfl,rfl⟩;exact .own) fun r11 Hs11 hr11 => ?_
 obtain⟨u11,rfl,rfl⟩:=hr11
 refine A0.ofP (j6.assign (.t rfl) ?_)
 show D0 _ _ _ _ _ [] ((4,_)::(11,_)::(10,_)::(9,_)::(8,_)::(7,_)::(6,_)::(5,_)::_) _
 refine .u0 hC .z (.as 4 a8 .z ?_)
 refine .q 2 hG ?_
 refine .e1 a8 a8 ?_
 rfl
theorem b8x (r:Rq) (h:U5 r=true):p4 gl prog 73 [.v r] (fun x=>x = .v (a2X r)):=by
 obtain⟨g0,g1,n0,n1⟩:=a1d h
 have l1:=B1 (n:=r.Gate.toNat) (by omega)
 have l2:=B1 (n:=r.E0.toNat) (by omega)
 refine p4.jn func73 (by kernel_rfl) 6 rfl fun C hC hG => ?_
 refine .q 3 hG fun b1 => ?_
 refine .q 5 hG ?_
 refine .k hG ((a4M _ h).b0q) (.p (.o8 hG (a4E _ _ (by decide) (by simp [a1c];omega)) (.cons (.s [114,101,113,117,101,115,116] (by decide) (by decide)) (.cons (.t a8) .nil)) ?_))
 refine .q 3 hG ?_
 refine .e1 a8 a8 ?_
 rfl
theorem b8y (s:Y4) (b:List UInt8) (r:Rq) (hs:s.l.length≤1000) (hb:b.length≤1000) (h:U5 r=true):p4 gl prog 97 [.v s,.v b,.v r] (fun x=>x = .v (s.l++(b++a1c r))):=by
 obtain⟨g0,g1,n0,n1⟩:=a1d h
 have l1:=B1 (n:=r.Gate.toNat) (by omega)
 have l2:=B1 (n:=r.E0.toNat) (by omega)
 refine p4.jn func97 (by kernel_rfl) 26 rfl fun C hC hG => ?_
 refine .q 3 hG fun b5 => ?_
 refine .q 3 hG ?_
 refine .draw (by kernel_rfl) 11 [[],[],[(10,0),(11,1)],[],[(13,3)],[(12,2),(14,4)],[(15,5)],[(9,6)],[(9,6)],[(16,7)],[(17,8)]] a8 (by kernel_rfl) a8 ?_
 refine⟨_,j6.move (.t a8) a8,?_⟩
 refine⟨_,j6.move (.t a8) a8,?_⟩
 refine⟨_,j6.o8 hG (a9I _ _ (by omega) (by omega)) (.cons (.t a8) (.cons (.t a8) .nil)) a8,?_⟩
 refine⟨_,j6.A9 u3.l0 b3a a8 (.t a8) a8,?_⟩
 refine⟨_,j6.ldF (fun x=>x.Gate) P5 (.t a8) .z (fun _=>a8) a8,?_⟩
 refine⟨_,j6.o8 hG ((a1x _ _ (by simp<;>omega) (by omega) (by omega)).b8k) (.cons (.t a8) (.cons (.t a8) .nil)) a8,?_⟩
 refine⟨_,j6.move (.t a8) a8,?_⟩
 refine⟨_,j6.a03 (.t a8) a8,?_⟩
 refine⟨_,j6.a04 (.t a8) a8,?_⟩
 refine⟨_,j6.assign (.t a8) a8,?_⟩
 refine⟨_,j6.assign (.t a8) a8,?_⟩
 show D0 _ _ _ _ _ [] ((8,_)::(7,_)::(17,_)::(16,_)::(9,_)::(15,_)::(14,_)::(13,_)::(12,_)::(11,_)::(10,_)::_) _
 refine .q 6 hG ?_
 refine .p (.o8 hG ((a1x _ _ (by simp<;>omega) (by omega) (by omega)).b8k) (.cons (.t a8) (.cons (.t a8) .nil)) ?_)
 refine .q 11 hG ?_
 refine .e1 a8 a8 ?_
 unfold a1c;simp only [List.append_assoc]
theorem b4b {a:C9} {leaf:Tag} {r:Rq} (h:U5 r=false):a0B a leaf r=(default,false):=by unfold a0B;rw [if_neg (by rw [h];decide)]
theorem b4c {a:C9} {leaf:Tag} {r:Rq} (h:U5 r=true):a0B a leaf r=m6 a leaf (a2X r):=by unfold a0B;rw [if_pos h]
theorem b4d {a:C9} {t leaf:Tag} {r:Rq} (h:U5 r=false):U9 a t leaf r=(default,false):=by unfold U9;rw [if_neg (by rw [h];decide)]
theorem b4e {a:C9} {t leaf:Tag} {r:Rq} (h:U5 r=true):U9 a t leaf r=m6 a t (W6 leaf r):=by unfold U9;rw [if_pos h]
theorem b6w (a:C9) (leaf:Tag) (r:Rq):p4 gl prog 39 [.v a,.v leaf,.v r] (fun x=>x = .t2 (.v (a0B a leaf r).1) (.v (a0B a leaf r).2)):=by
 refine p4.jn func39 (by kernel_rfl) 19 rfl fun C hC hG => ?_
 refine .q 3 hG fun b3 => ?_
 refine .q 1 hG fun b4 => ?_
 refine .q 1 hG fun b5 => ?_
 refine .q 1 hG fun b6 => ?_
 refine .q 6 hG ?_
 refine .k hG (b3Z _) ?_
 refine .q 2 hG ?_
 refine .cond (.t a8) (fun hc10 => ?_) (fun hc10 => ?_)
 ·refine .q 2 hG ?_
  refine .p (.M8 (default:(I8 32 UInt8)) A5 M6 .nil a8 ?_)
  refine .q 4 hG ?_
  refine⟨_,.r2 a8 (.cell A5 a8 .z) (.tmp a8),?_⟩
  rw [b4b (by simpa using hc10)]
 ·refine .q 2 hG ?_
  have hro:U5 r=true:=by simpa using hc10
  refine .draw (by kernel_rfl) 7 [[],[],[],[(14,2)],[(12,0),(13,1),(15,3)],[(16,4)],[(16,4)]] a8 (by kernel_rfl) a8 ?_
  refine⟨_,j6.S4 y9 (.t a8) .z3 a8,?_⟩
  refine⟨_,j6.S4 A5 (.t a8) .z2 a8,?_⟩
  refine⟨_,j6.S4 a8v (.t a8) .z1 a8,?_⟩
  refine⟨_,j6.o8 hG (b8y _ _ _ (by decide) (by decide) (by simpa using ‹(!U5 r)=false›)) (.cons (.s [114,101,113,117,101,115,116] (by decide) (by decide)) (.cons .b3q (.cons (.t a8) .nil))) a8,?_⟩
  refine⟨_,j6.o8 hG (a1w _ _ _) (.cons (.t a8) (.cons (.t a8) (.cons (.t a8) .nil))) a8,?_⟩
  refine⟨_,j6.a03 (.t a8) a8,?_⟩
  refine⟨_,j6.a04 (.t a8) a8,?_⟩
  show D0 _ _ _ _ _ [_,_] ((18,_)::(17,_)::(16,_)::(15,_)::(14,_)::(13,_)::(12,_)::_) _
  refine .q 4 hG ?_
  refine⟨_,.r2 a8 (.cell A5 a8 .z) (.tmp a8),?_⟩
  rw [b4c hro]
  rfl
theorem b6x (a:C9) (t leaf:Tag) (r:Rq):p4 gl prog 103 [.v a,.v t,.v leaf,.v r] (fun x=>x = .t2 (.v (U9 a t leaf r).1) (.v (U9 a t leaf r).2)):=by
 refine p4.jn func103 (by kernel_rfl) 22 rfl fun C hC hG => ?_
 refine .q 3 hG fun b4 => ?_
 refine .q 1 hG fun b5 => ?_
 refine .q 1 hG fun b6 => ?_
 refine .q 1 hG fun b7 => ?_
 refine .q 1 hG fun b8 => ?_
 refine .q 6 hG ?_
 refine .k hG (b3Z _) ?_
 refine .q 2 hG ?_
 refine .cond (.t a8) (fun hc12 => ?_) (fun hc12 => ?_)
 ·refine .q 2 hG ?_
  refine .p (.M8 (default:(I8 32 UInt8)) A5 M6 .nil a8 ?_)
  refine .q 4 hG ?_
  refine⟨_,.r2 a8 (.cell A5 a8 .z) (.tmp a8),?_⟩
  rw [b4d (by simpa using hc12)]
 ·refine .q 2 hG ?_
  refine .y6 hC .z2 (.L6 6 a8 .z2 ?_)
  have hro:U5 r=true:=by simpa using hc12
  refine .draw (by kernel_rfl) 8 [[],[],[],[],[(16,2),(17,3)],[(14,0),(15,1),(18,4)],[(19,5)],[(19,5)]] a8 (by kernel_rfl) a8 ?_
  refine⟨_,j6.S4 y9 (.t a8) .z4 a8,?_⟩
  refine⟨_,j6.S4 A5 (.t a8) .z3 a8,?_⟩
  refine⟨_,j6.O6 (by decide) M6 (.t a8) a8,?_⟩
  refine⟨_,j6.S4 a8v (.t a8) .z1 a8,?_⟩
  refine⟨_,j6.o8 hG (b8y _ _ _ (by decide) (by simp [I8.len]) (by simpa using ‹(!U5 r)=false›)) (.cons (.s [98,105,110,100] (by decide) (by decide)) (.cons (.t a8) (.cons (.t a8) .nil))) a8,?_⟩
  refine⟨_,j6.o8 hG (a1w _ _ _) (.cons (.t a8) (.cons (.t a8) (.cons (.t a8) .nil))) a8,?_⟩
  refine⟨_,j6.a03 (.t a8) a8,?_⟩
  refine⟨_,j6.a04 (.t a8) a8,?_⟩
  show D0 _ _ _ _ _ [_,_] ((21,_)::(20,_)::(19,_)::(18,_)::(17,_)::(16,_)::(15,_)::(14,_)::_) _
  refine .q 4 hG ?_
  refine⟨_,.r2 a8 (.cell A5 a8 .z) (.tmp a8),?_⟩
  rw [b4e hro]
  rfl
theorem c2W (a:C9) (k:Tag) (t:List UInt8) (l:List Pred) (ht:t.length≤1000000):p4 gl prog 114 [.v a,.v k,.v t,.v l] (fun x=>x = .t2 (.v (a1D a k t l).1) (.v (a1D a k t l).2)):=by
 refine p4.jn func114 (by kernel_rfl) 60 rfl fun C hC hG => ?_
 refine .q 3 hG fun b4 => ?_
 refine .q 1 hG fun b5 => ?_
 refine .q 1 hG fun b8 => ?_
 refine .q 3 hG ?_
 refine .y6 hC .z2 (.L6 4 a8 .z2 (.y6 hC .z1 (.L6 5 a8 .z1 (.T3 3 a8 fun hl3=>(.D7 [j1,j1,j1] (by kernel_rfl) 11 [[],[],[],[(16,2)],[(14,0),(15,1),(17,3)],[(18,4)],[(13,5)],[(13,5)],[],[(10,8),(19,6)],[(20,7)]] [8,9] a8 (by kernel_rfl) a8 (by kernel_rfl) (by decide) ?_)))))
 refine⟨_,fun H=>j6.G6 y9 (.t a8) a8,?_⟩
 refine⟨_,fun H=>j6.G6 A5 (.t a8) a8,?_⟩
 refine⟨_,fun H=>j6.move (.t a8) a8,?_⟩
 refine⟨_,fun H=>j6.o8 hG (a7s _ ht) (.cons (.t a8) .nil) a8,?_⟩
 refine⟨_,fun H=>j6.o8 hG (b5p _ _ _) (.cons (.t a8) (.cons (.t a8) (.cons (.t a8) .nil))) a8,?_⟩
 refine⟨_,fun H=>j6.move (.t a8) a8,?_⟩
 refine⟨_,fun H=>j6.a03 (.t a8) a8,?_⟩
 refine⟨_,fun H=>j6.a04 (.t a8) a8,?_⟩
 refine .inl (.inl ?_)
 refine⟨_,fun H=>j6.assign (.t a8) a8,?_⟩
 refine⟨⟨([],j2 [c8,c8,c8]),a8⟩,?_⟩
 refine A0.alloc A5 fun b10 => ?_
 refine⟨⟨([_],j2 [c8,c8,c8]),a8⟩,?_⟩
 refine A0.R6 A5 (.t rfl) (.t rfl) .z ?_
 refine⟨⟨([_],j2 [c8,c8,c8]),a8⟩,?_⟩
 show D0 _ _ _ _ _ [] ((11,_)::(10,_)::(20,_)::(19,_)::(13,_)::(18,_)::(17,_)::(16,_)::(15,_)::(14,_)::_) _
 refine .q 3 hG ?_
 have hz:=a9C a k t l
 refine .q 4 hG ?_
 refine .D8 (α:=Nat) [(3,_),(4,_),(8,_),(10,_)] (fun x R=>(11,.v (V7 a k t (l.take x)).isSome)::(12,.v (x:Int))::R) (fun x => [(true,.ob (ptr b10 0) ((V7 a k t (l.take x)).getD default)),(true,.ob (ptr b8 0) (default:Tag)),(true,.fz (ptr b5 0) (.p k)),(true,.fz (ptr b4 0) (.p a))]) (fun x=>x≤l.length) (fun x=>l.length - x) (0) (.c2 a8 a8 (.c2 a8 a8 (.nil _))) ?_ (.cons (congrArg (fun q=>some (AV.v q)) hz.1.symm) (.c2 a8 a8 (.c2 a8 a8 (.cons a8 (.nil _))))) (congrArg (fun q => [(true,D6.ob _ q),_,_,_]) hz.2.symm) fun x hF => ?_
 ·simp
 refine .q 11 hG ?_
 refine .cond (.t a8) (fun hc27 => ?_) (fun hc27 => ?_)
 ·refine .q 5 hG ?_
  have hlt:x < l.length∧(V7 a k t (l.take x)).isSome=true:=by simpa using hc27
  refine .q 3 hG ?_
  refine .ix (by omega) (by omega) ?_
  refine .q 1 hG ?_
  refine .k hG (a0f _) ?_
  refine .q 4 hG ?_
  refine .go 36 a8 (.t a8) (fun hg39 => .idx Q2 underlying83 (.q a8 hg39) (.q a8 hg39) (by first|omega|(simp;omega)|(have:=hg39;simp at this;omega)) (by first|omega|(simp;omega)|(have:=hg39;simp at this;omega)) a8) ?_
  refine .q 5 hG ?_
  refine .cond (.t a8) (fun hc43 => ?_) (fun hc43 => ?_)
  ·refine .q 2 hG ?_
   refine .p (.M8 (default:(I8 32 UInt8)) A5 M6 .nil a8 ?_)
   refine .q 4 hG ?_
   refine⟨_,.r2 a8 (.cell A5 a8 .z1) (.tmp a8),?_⟩
   have e:a1D a k t l=(default,false):=by unfold a1D;rw [b2e hlt.1 hc43];rfl
   rw [e]
  ·refine .q 1 hG ?_
   have hst:=a9D hlt.1 hlt.2 hc43
   refine .a0O [[j1,j1,j1,j1],[j0,j1,j1,j1]] [[j1,j1,j1,j1],[j1,j1,j1,j1],[j1,j1,j1,j1],[j1,j1,j1,j1],[j1,j1,j1,j1],[j1,j1,j1,j1],[j1,j1,j1,j1],[j1,j1,j1,j1],[j1,j1,j1,j1],[j1,j1,j1,j1],[j0,j1,j1,j1],[],[j0,j1,j1,j1]] [] [] 1 (by kernel_rfl) 13 [[],[],[],[],[(48,2),(49,3)],[(50,4)],[(51,5)],[(46,0),(47,1),(52,6)],[(53,7)],[(45,8)],[(45,8)],[(54,9)],[(55,10)]] [11] rfl (by kernel_rfl) rfl (by kernel_rfl) rfl (by decide) (by simp) (fun p hp=>by cases hp) (by kernel_rfl) rfl ?_
   refine⟨_,fun H=>j6.G6 y9 (.t a8) a8,?_⟩
   refine⟨_,fun H=>j6.S4 A5 (.t a8) (u4.app .z) a8,?_⟩
   refine⟨_,fun H=>j6.move (.t a8) a8,?_⟩
   refine⟨_,fun H=>j6.move (.t a8) a8,?_⟩
   refine⟨_,fun H=>j6.idx Q2 underlying83 (.t a8) (.t a8) (by omega) (by omega) a8,?_⟩
   refine⟨_,fun H=>j6.G6 Q2 (.t a8) a8,?_⟩
   refine⟨_,fun H=>j6.o8 hG (a8H _) (.cons (.t a8) .nil) a8,?_⟩
   refine⟨_,fun H=>j6.o8 hG (b5p _ _ _) (.cons (.t a8) (.cons (.t a8) (.cons (.t a8) .nil))) a8,?_⟩
   refine⟨_,fun H=>j6.move (.t a8) a8,?_⟩
   refine⟨_,fun H=>j6.a03 (.t a8) a8,?_⟩
   refine⟨_,fun H=>j6.a04 (.t a8) a8,?_⟩
   refine .inl ?_
   refine⟨_,fun H=>j6.assign (.t a8) a8,?_⟩
   refine⟨a8,?_⟩
   refine⟨⟨j2 [c8,c8,c8,c8],a8⟩,fun Ys7 => ?_⟩
   refine A0.R6 A5 (.t rfl) (.t rfl) (u4.app (u4.app .z)) ?_
   refine⟨[],_,a8,?_⟩
   refine⟨⟨j2 [_,c8,c8,c8],a8⟩,fun ws7 => ?_⟩
   refine⟨⟨j2 [_,c8,c8,c8],a8⟩,fun _ => ?_⟩
   show D0 _ _ _ _ _ [] ((11,_)::(55,_)::(54,_)::(45,_)::(53,_)::(52,_)::(51,_)::(50,_)::(49,_)::(48,_)::(47,_)::(46,_)::_) _
   refine .q 3 hG ?_
   refine .ad (by omega) (by omega) ?_
   refine .q 2 hG ?_
   refine⟨x+1,.cons (congrArg (fun q=>some (AV.v q)) hst.1.symm) (.c2 rfl rfl (.c2 rfl rfl (.cons rfl (.nil _)))),congrArg (fun q => [(true,D6.ob _ q),_,_,_]) hst.2.symm,?_,by omega⟩
   omega
 ·refine .q 7 hG ?_
  refine .cond (.t a8) (fun hc57 => ?_) (fun hc57 => ?_)
  ·refine .q 2 hG ?_
   refine .p (.M8 (default:(I8 32 UInt8)) A5 M6 .nil a8 ?_)
   refine .q 4 hG ?_
   refine⟨_,.r2 a8 (.cell A5 a8 .z1) (.tmp a8),?_⟩
   have hn:V7 a k t l=none:=a6X a k t l x (by simpa using hc57)
   have e:a1D a k t l=(default,false):=by unfold a1D;rw [hn];rfl
   rw [e]
  ·refine .q 8 hG ?_
   refine⟨_,.r2 a8 (.cell A5 a8 .z1) (.tmp a8),?_⟩
   have h57:(V7 a k t (l.take x)).isSome=true:=by simpa using hc57
   have hx:l.length≤x:=by simpa [h57] using hc27
   rw [List.take_of_length_le hx] at h57 ⊢
   unfold a1D
   rw [h57]
theorem b8z (a:C9) (k:Tag) (t:List UInt8) (l:List Pred) (ht:t.length≤1000000):p4 gl prog 102 [.v a,.v k,.v t,.v l] (fun x=>x = .t2 (.v (a1D a k t l).1) (.v (a1D a k t l).2)):=by
 refine p4.jn func102 (by kernel_rfl) 58 rfl fun C hC hG => ?_
 refine .q 3 hG fun b4 => ?_
 refine .q 1 hG fun b5 => ?_
 refine .q 1 hG fun b8 => ?_
 refine .q 3 hG ?_
 refine .y6 hC .z2 (.L6 4 a8 .z2 (.y6 hC .z1 (.L6 5 a8 .z1 (.T3 3 a8 fun hl3=>(.D7 [j1,j1,j1] (by kernel_rfl) 11 [[],[],[],[(19,2)],[(17,0),(18,1),(20,3)],[(21,4)],[(16,5)],[(16,5)],[],[(10,8),(22,6)],[(23,7)]] [8,9] a8 (by kernel_rfl) a8 (by kernel_rfl) (by decide) ?_)))))
 refine⟨_,fun H=>j6.G6 y9 (.t a8) a8,?_⟩
 refine⟨_,fun H=>j6.G6 A5 (.t a8) a8,?_⟩
 refine⟨_,fun H=>j6.move (.t a8) a8,?_⟩
 refine⟨_,fun H=>j6.o8 hG (a9I _ _ (by decide) (by omega)) (.cons (.s [103,114,97,110,116] (by decide) (by decide)) (.cons (.t a8) .nil)) a8,?_⟩
 refine⟨_,fun H=>j6.o8 hG (a1w _ _ _) (.cons (.t a8) (.cons (.t a8) (.cons (.t a8) .nil))) a8,?_⟩
 refine⟨_,fun H=>j6.move (.t a8) a8,?_⟩
 refine⟨_,fun H=>j6.a03 (.t a8) a8,?_⟩
 refine⟨_,fun H=>j6.a04 (.t a8) a8,?_⟩
 refine .inl (.inl ?_)
 refine⟨_,fun H=>j6.assign (.t a8) a8,?_⟩
 refine⟨⟨([],j2 [c8,c8,c8]),a8⟩,?_⟩
 refine A0.alloc A5 fun b10 => ?_
 refine⟨⟨([_],j2 [c8,c8,c8]),a8⟩,?_⟩
 refine A0.R6 A5 (.t rfl) (.t rfl) .z ?_
 refine⟨⟨([_],j2 [c8,c8,c8]),a8⟩,?_⟩
 show D0 _ _ _ _ _ [] ((11,_)::(10,_)::(23,_)::(22,_)::(16,_)::(21,_)::(20,_)::(19,_)::(18,_)::(17,_)::_) _
 refine .q 3 hG ?_
 have hz:=a9C a k t l
 refine .q 6 hG ?_
 refine .D8 (α:=Nat) [(4,_),(8,_),(10,_),(24,_),(25,_)] (fun x R=>(11,.v (V7 a k t (l.take x)).isSome)::(26,.v (x:Int))::R) (fun x => [(true,.ob (ptr b10 0) ((V7 a k t (l.take x)).getD default)),(true,.ob (ptr b8 0) (default:Tag)),(true,.fz (ptr b5 0) (.p k)),(true,.fz (ptr b4 0) (.p a))]) (fun x=>x≤l.length) (fun x=>l.length - x) (0) (.c2 a8 a8 (.c2 a8 a8 (.cons a8 (.nil _)))) ?_ (.cons (congrArg (fun q=>some (AV.v q)) hz.1.symm) (.c2 a8 a8 (.c2 a8 a8 (.c2 a8 a8 (.nil _))))) (congrArg (fun q => [(true,D6.ob _ q),_,_,_]) hz.2.symm) fun x hF => ?_
 ·simp
 refine .q 6 hG ⟨fun hc27 => ?_,fun hc27 => ?_⟩
 ·refine .q 5 hG ?_
  refine .ix (by omega) (by omega) ?_
  refine .q 2 hG fun b13 => ?_
  refine .q 3 hG ?_
  have hlt:x < l.length:=by omega
  refine .y6 hC .z (.L6 13 a8 .z (.drop ?_))
  refine .q 2 hG ?_
  refine .k hG (a6V _) ?_
  refine .q 21 hG ?_
  refine .cond (.t a8) (fun hc45 => ?_) (fun hc45 => ?_)
  ·refine .q 2 hG ?_
   refine .p (.M8 (default:(I8 32 UInt8)) A5 M6 .nil a8 ?_)
   refine .q 4 hG ?_
   refine⟨_,.r2 a8 (.cell A5 a8 .z1) (.tmp a8),?_⟩
   rw [a7o] at hc45
   have hn:V7 a k t l=none:=(by by_cases hs:(V7 a k t (l.take x)).isSome=true;exact b2e hlt (by simp_all);exact a6X a k t l x (by simpa using hs))
   have e:a1D a k t l=(default,false):=by unfold a1D;rw [hn];rfl
   rw [e]
  ·refine .q 1 hG ?_
   rw [a7o] at hc45
   have hlt2:(V7 a k t (l.take x)).isSome=true:=by simp_all
   have hst:=a9D hlt hlt2 (by simp_all)
   have hpl:=a11 l[x]
   refine .a0O [[j1,j1,j1,j1],[j0,j1,j1,j1]] [[j1,j1,j1,j1],[j1,j1,j1,j1],[j1,j1,j1,j1],[j1,j1,j1,j1],[j1,j1,j1,j1],[j1,j1,j1,j1],[j1,j1,j1,j1],[j0,j1,j1,j1],[],[j0,j1,j1,j1]] [] [] 1 (by kernel_rfl) 10 [[],[],[],[(50,2)],[(48,0),(49,1),(51,3)],[(52,4)],[(47,5)],[(47,5)],[(53,6)],[(54,7)]] [8] rfl (by kernel_rfl) rfl (by kernel_rfl) rfl (by decide) (by simp) (fun p hp=>by cases hp) (by kernel_rfl) rfl ?_
   refine⟨_,fun H=>j6.G6 y9 (.t a8) a8,?_⟩
   refine⟨_,fun H=>j6.S4 A5 (.t a8) (u4.app .z) a8,?_⟩
   refine⟨_,fun H=>j6.move (.t a8) a8,?_⟩
   refine⟨_,fun H=>j6.o8 hG (a9I _ _ (by decide) (Nat.le_trans (a11 _) (by decide))) (.cons (.s [99,111,110,100,105,116,105,111,110] (by decide) (by decide)) (.cons (.t a8) .nil)) a8,?_⟩
   refine⟨_,fun H=>j6.o8 hG (a1w _ _ _) (.cons (.t a8) (.cons (.t a8) (.cons (.t a8) .nil))) a8,?_⟩
   refine⟨_,fun H=>j6.move (.t a8) a8,?_⟩
   refine⟨_,fun H=>j6.a03 (.t a8) a8,?_⟩
   refine⟨_,fun H=>j6.a04 (.t a8) a8,?_⟩
   refine .inl ?_
   refine⟨_,fun H=>j6.assign (.t a8) a8,?_⟩
   refine⟨a8,?_⟩
   refine⟨⟨j2 [c8,c8,c8,c8],a8⟩,fun Ys8 => ?_⟩
   refine A0.R6 A5 (.t rfl) (.t rfl) (u4.app (u4.app .z)) ?_
   refine⟨[],_,a8,?_⟩
   refine⟨⟨j2 [_,c8,c8,c8],a8⟩,fun ws8 => ?_⟩
   refine⟨⟨j2 [_,c8,c8,c8],a8⟩,fun _ => ?_⟩
   show D0 _ _ _ _ _ [] ((11,_)::(54,_)::(53,_)::(47,_)::(52,_)::(51,_)::(50,_)::(49,_)::(48,_)::_) _
   refine .q 2 hG ?_
   refine .ad (by omega) (by omega) ?_
   refine .q 2 hG ?_
   refine⟨x+1,.cons (congrArg (fun q=>some (AV.v q)) hst.1.symm) (.c2 rfl rfl (.c2 rfl rfl (.c2 rfl rfl (.nil _)))),congrArg (fun q => [(true,D6.ob _ q),_,_,_]) hst.2.symm,?_,by omega⟩
   omega
 ·refine .q 9 hG ?_
  refine⟨_,.r2 a8 (.cell A5 a8 .z1) (.tmp a8),?_⟩
  rw [List.take_of_length_le (by omega)]
  rfl
theorem c2s (k:Tag) (l:List (List UInt8)) (hl:l.length≤1000000) (p:Tag→List UInt8→Tag×Bool):p4 gl prog 93 [.v k,.v l,.b8l prog p] (fun x=>x = .t2 (.v ((R1 p k l).getD [])) (.v (R1 p k l).isSome)):=by
 refine p4.jn func93 (by kernel_rfl) 41 rfl fun C hC hG => ?_
 refine .q 3 hG fun b3 => ?_
 refine .q 4 hG ?_
 refine .y6 hC .z (.L6 3 a8 .z (.drop ?_))
 refine .q 2 hG ?_
 refine .bs a8 (by decide) fun b14 => ?_
 refine .q 10 hG ?_
 refine .D8 (α:=Nat×Value×List Tag) [(2,_),(15,_),(16,_)] (fun x R=>(8,.raw x.2.1)::(17,.v (x.1:Int))::R) (fun x => [(true,.own 26 x.2.1 x.2.2)]) (fun x=>x.1≤l.length∧R1 p k (l.take x.1)=some x.2.2∧x.2.2.length=x.1+1) (fun x=>l.length - x.1) ((0,slc b14 0 1 1,[k])) (.c2 a8 a8 (.cons a8 (.nil _))) ?_ (.c2 a8 a8 (.c2 a8 a8 (.cons a8 (.nil _)))) (a8) fun x hF => ?_
 ·exact⟨Nat.zero_le _,a8,a8⟩
 obtain⟨i,w,s⟩:=x
 obtain⟨h1,h2,h3⟩:=hF
 dsimp only at h1 h2 h3 ⊢
 refine .q 6 hG ⟨fun hc18 => ?_,fun hc18 => ?_⟩
 ·refine .q 5 hG ?_
  refine .ix (by omega) (by omega) ?_
  refine .q 8 hG ?_
  refine .p (.a4v underlying54 a8 .z ?_)
  refine .sb (by omega) (by omega) (.p (.V2 A5 underlying54 a8 .z (.t a8) (by omega) (by omega) (.p (.b1B A5 (.t a8) .z (by omega) ?_))))
  refine .q 1 hG ?_
  refine .p (.b6n a8 (.t a8) (.t a8) ?_)
  refine .q 4 hG fun b11 => ?_
  refine .q 2 hG ?_
  refine .y6 hC .z (.L6 11 a8 .z (.drop ?_))
  refine .q 3 hG ?_
  rw [b2f (by omega)] at *
  refine .q 4 hG ?_
  refine .cond (.t a8) (fun hc34 => ?_) (fun hc34 => ?_)
  ·refine .q 6 hG ?_
   refine .e2 a8 a8 a8 ?_
   have e:R1 p k l=none:=b8s (by omega) h2 (by simpa using hc34)
   rw [e];rfl
  ·refine .q 4 hG ?_
   refine .bs a8 (by decide) fun b37 => ?_
   refine .ap (by simp<;>omega) (by simp<;>omega) fun w38 => ?_
   refine .q 1 hG ?_
   refine .drop ?_
   refine .q 2 hG ?_
   refine .ad (by omega) (by omega) ?_
   refine .q 2 hG ?_
   refine⟨(i+1,_,_),.c2 rfl rfl (.c2 rfl rfl (.cons rfl (.nil _))),rfl,?_,by dsimp only;omega⟩
   exact⟨by dsimp only;omega,b6r (by omega) h2 (by simpa using hc34),by simp;omega⟩
 ·refine .q 2 hG ?_
  refine .u0 hC .z (.as 8 a8 .z ?_)
  refine .q 6 hG ?_
  refine .e2 a8 a8 a8 ?_
  rw [List.take_of_length_le (by omega)] at h2
  rw [h2];rfl
theorem c0z (a:C9) (k:Tag) (m:List UInt8):p4 gl prog 94 [.v k,.v m,.p a] (fun r=>r = .t2 (.v (m6 a k m).1) (.v (m6 a k m).2)):=by
 refine p4.jn func94 (by kernel_rfl) 13 rfl fun C hC hG => ?_
 refine .q 3 hG fun b3 => ?_
 refine .q 1 hG fun b5 => ?_
 refine .q 7 hG ?_
 refine .p (.o8 hG (a1w _ _ _) (.cons (.t a8) (.cons (.t a8) (.cons (.t a8) .nil))) ?_)
 refine .q 6 hG ?_
 refine⟨_,.r2 a8 (.cell A5 a8 .z) (.tmp a8),?_⟩
 rfl
theorem c2t (a:C9) (root:u7) (n:Int) (l:List Cav) (hl:l.length≤100000):p4 gl prog 38 [.v a,.v root,.v n,.v l] (fun x=>x = .t2 (.v (X7 a root n l).1) (.v (X7 a root n l).2)):=by
 refine p4.jn func38 (by kernel_rfl) 57 rfl fun C hC hG => ?_
 refine .q 3 hG fun b4 => ?_
 refine .q 1 hG fun b5 => ?_
 refine .q 5 hG ?_
 refine .y6 hC .z1 (.L6 4 a8 .z1 (.y6 hC .z (.L6 5 a8 .z ?_)))
 refine .q 4 hG ?_
 refine .p (.o8 hG (b8w _ _) (.cons (.t a8) (.cons (.t a8) .nil)) ?_)
 refine .q 2 hG ?_
 refine .cond (.t a8) (fun hc21 => ?_) (fun hc21 => ?_)
 ·refine .q 6 hG ?_
  refine .e2 a8 a8 a8 ?_
  rw [c0v (by simpa using hc21)]
 ·refine .q 2 hG ?_
  have hro:J7 root.Number n=true:=by simpa using hc21
  have hr:=a7p hro
  refine .q 2 hG ?_
  refine .k hG (b6u _ (by omega) (by omega)) ?_
  refine .bs a8 (by decide) fun b24 => ?_
  refine .q 10 hG ?_
  refine .D8 (α:=Nat×Value) [(4,_),(5,_),(25,_),(26,_)] (fun x R=>(10,.raw x.2)::(27,.v (x.1:Int))::R) (fun x => [(true,.own 86 x.2 (G8 n (l.take x.1))),(true,.fz (ptr b5 0) (.p root)),(true,.fz (ptr b4 0) (.p a))]) (fun x=>x.1≤l.length∧(l.take x.1).all I5=true) (fun x=>l.length - x.1) ((0,slc b24 0 1 1)) (.c2 a8 a8 (.c2 a8 a8 (.nil _))) ?_ (.c2 a8 a8 (.c2 a8 a8 (.c2 a8 a8 (.nil _)))) (a8) fun x hF => ?_
  ·exact⟨Nat.zero_le _,a8⟩
  obtain⟨i,w⟩:=x
  obtain⟨h1,h2⟩:=hF
  dsimp only at h1 h2 ⊢
  refine .q 6 hG ⟨fun hc28 => ?_,fun hc28 => ?_⟩
  ·refine .q 5 hG ?_
   refine .ix (by omega) (by omega) ?_
   refine .q 2 hG fun b12 => ?_
   refine .q 3 hG ?_
   refine .y6 hC .z (.L6 12 a8 .z (.drop ?_))
   refine .q 2 hG ?_
   refine .k hG (b2j _) ?_
   refine .q 13 hG ⟨fun hc37 => ?_,fun hc37 => ?_⟩
   ·refine .q 7 hG ?_
    refine .e2 a8 a8 a8 ?_
    have hco:I5 l[i]=false:=by cases hc:I5 l[i];rfl;(exact absurd (by rw [show W4 l[(i:Int).toNat]=W4 l[i] from rfl,a1E hc]) hc37)
    rw [show W4 l[(i:Int).toNat]=([],5) from a45 (by rw [show I5 l[(i:Int).toNat]=false from hco];decide),c0w hro (b0v I5 l i (by omega) hco)]
   ·refine .q 1 hG ?_
    have hco:I5 l[i]=true:=by cases hc:I5 l[i];(exact absurd (by rw [show W4 l[(i:Int).toNat]=W4 l[i] from rfl,a45 (by rw [hc];decide)];decide) hc37);rfl
    have hcl:=a5n n (l.take i)
    have htl:(l.take i).length≤l.length:=by simp;omega
    refine .q 3 hG ?_
    refine .p (.o8 hG (a9I _ _ (by decide) (Nat.le_trans (a33 _) (by decide))) (.cons (.s [99,97,118,101,97,116] (by decide) (by decide)) (.cons (.t a8) .nil)) ?_)
    refine .bs a8 (by decide) fun b42 => ?_
    refine .ap (by simp<;>omega) (by simp<;>omega) fun w43 => ?_
    refine .q 1 hG ?_
    refine .drop ?_
    refine .q 2 hG ?_
    refine .ad (by omega) (by omega) ?_
    refine .q 2 hG ?_
    refine⟨(i+1,_),.c2 rfl rfl (.c2 rfl rfl (.c2 rfl rfl (.nil _))),congrArg (fun q => [(true,D6.own _ _ q),_,_]) (a8F n l i (by omega)).symm,?_,by dsimp only;omega⟩
    exact⟨by dsimp only;omega,by rw [all_succ I5 l i (by omega),h2,hco];rfl⟩
  ·refine .q 2 hG ?_
   have ht:=List.take_of_length_le (show l.length≤i by omega)
   rw [ht] at h2 ⊢
   have hcl:=a5n n l
   refine .u0 hC .z (.as 10 a8 .z ?_)
   refine .q 4 hG ?_
   refine .p (.c0r hG (fun x y=>c0z a x y) (.cons (.t a8) .nil) (.p (.o8 hG (c2s _ _ (by omega) _) (.cons (.t a8) (.cons (.t a8) (.cons (.t a8) .nil))) ?_)))
   refine .q 12 hG ?_
   refine .cond (.t a8) (fun hc54 => ?_) (fun hc54 => ?_)
   ·refine .q 6 hG ?_
    refine .e2 a8 a8 a8 ?_
    rw [b8t hro h2 (by simpa using hc54)]
   ·refine .q 2 hG ?_
    obtain⟨T0,hT⟩:=Option.isSome_iff_exists.1 (show(R1 (m6 a) root.Key (G8 n l)).isSome=true by simpa using hc54)
    obtain⟨T,hT2,hT3⟩:=a5O (k:=root.Key) hT
    subst hT2
    rw [hT]
    refine .q 2 hG ?_
    refine .p (.b7J A5 underlying54 (.t a8) (.i a8) (by omega) (by simp<;>omega) ?_)
    refine .q 4 hG ?_
    refine .e2 a8 a8 a8 ?_
    rw [c0x hro h2 hT];rfl
theorem c0A (a:C9) (l:List Tag) (hl:l.length≤100000):p4 gl prog 40 [.v a,.v l] (fun x=>x = .t2 (.v (a1C a l).1) (.v (a1C a l).2)):=by
 refine p4.jn func40 (by kernel_rfl) 33 rfl fun C hC hG => ?_
 refine .q 3 hG fun b2 => ?_
 refine .q 4 hG ?_
 refine .y6 hC .z (.L6 2 a8 .z ?_)
 refine .q 1 hG ?_
 refine .p (.assign .raw ?_)
 refine .q 3 hG ?_
 refine .a0H 26 Tag ?_
 refine .q 6 hG ?_
 refine .D8 (α:=Nat×Value×List Tag) [(2,_),(11,_),(12,_)] (fun x R=>(6,.raw x.2.1)::(13,.v (x.1:Int))::R) (fun x => [(true,.own 26 x.2.1 x.2.2),(true,.fz (ptr b2 0) (.p a))]) (fun x=>x.1≤l.length∧a0L a (l.take x.1)=some x.2.2∧x.2.2.length=x.1) (fun x=>l.length - x.1) ((0,.slice none 0 0,[])) (.c2 a8 a8 (.cons a8 (.nil _))) ?_ (.c2 a8 a8 (.c2 a8 a8 (.cons a8 (.nil _)))) (a8) fun x hF => ?_
 ·exact⟨Nat.zero_le _,a8,a8⟩
 obtain⟨i,w,s⟩:=x
 obtain⟨h1,h2,h3⟩:=hF
 dsimp only at h1 h2 h3 ⊢
 refine .q 6 hG ⟨fun hc14 => ?_,fun hc14 => ?_⟩
 ·refine .q 5 hG ?_
  refine .ix (by omega) (by omega) ?_
  refine .q 2 hG fun b8 => ?_
  refine .q 3 hG ?_
  refine .y6 hC .z (.L6 8 a8 .z (.drop ?_))
  refine .q 3 hG ?_
  refine .bs a8 (by decide) fun b20 => .h (.same underlying86 underlying5 a8 .z (by simp) (.u0 hC .z (.as 21 a8 .z (.p (.o8 hG (a1w _ _ _) (.cons (.t a8) (.cons (.t a8) (.cons (.t a8) .nil))) ?_)))))
  refine .q 4 hG fun b9 => ?_
  refine .q 5 hG ?_
  refine .y6 hC .z (.L6 9 a8 .z (.drop (.drop ?_)))
  refine .q 4 hG ?_
  refine .cond (.t a8) (fun hc26 => ?_) (fun hc26 => ?_)
  ·refine .q 6 hG ?_
   refine .e2 a8 a8 a8 ?_
   have e:a0L a l=none:=b6t (i:=i) (by omega) (by simpa [F8] using hc26)
   unfold a1C
   rw [e]
  ·refine .q 4 hG ?_
   refine .bs a8 (by decide) fun b29 => ?_
   refine .ap (by simp<;>omega) (by simp<;>omega) fun w30 => ?_
   refine .q 1 hG ?_
   refine .drop ?_
   refine .q 2 hG ?_
   refine .ad (by omega) (by omega) ?_
   refine .q 2 hG ?_
   refine⟨(i+1,_,_),.c2 rfl rfl (.c2 rfl rfl (.cons rfl (.nil _))),rfl,?_,by dsimp only;omega⟩
   exact⟨by dsimp only;omega,b3U (i:=i) (by omega) h2 (by simpa [F8] using hc26),by simp;omega⟩
 ·refine .q 2 hG ?_
  refine .u0 hC .z (.as 6 a8 .z ?_)
  refine .q 6 hG ?_
  refine .e2 a8 a8 a8 ?_
  rw [List.take_of_length_le (by omega)] at h2
  unfold a1C
  rw [h2]
theorem b8A (a:C9) (k:Tag) (m:List UInt8):p4 gl prog 70 [.v a,.v k,.v m] (fun r=>r = .t3 (.v (a5p a k m).1) (.v (a5p a k m).2.1) (.v (a5p a k m).2.2)):=by
 refine p4.jn func70 (by kernel_rfl) 40 rfl fun C hC hG => ?_
 refine .q 3 hG fun b3 => ?_
 refine .q 1 hG fun b4 => ?_
 refine .q 1 hG fun b6 => ?_
 refine .q 1 hG fun b7 => ?_
 refine .q 7 hG ?_
 refine .p (.o8 hG (a5G _ _ _) (.cons (.t a8) (.cons (.t a8) (.cons (.t a8) .nil))) ?_)
 refine .q 5 hG fun b9 => ?_
 refine .q 11 hG ⟨fun hc20 => ?_,fun hc20 => ?_⟩
 ·refine .q 2 hG ?_
  refine .p (.bS0 (α:=m0) a8 y9 a1i (.p (.M8 (default:(I8 32 UInt8)) A5 M6 .nil a8 ?_)))
  refine .q 6 hG ?_
  refine⟨_,.r3 a8 (.cell y9 a8 .z2) (.cell A5 a8 .z1) (.tmp a8),?_⟩
  unfold a5p
  rw [Q1 hc20]
 ·refine .q 5 hG ?_
  refine .bs a8 (by decide) fun b27 => .h (.same underlying86 underlying5 a8 .z (by simp) (.u0 hC .z (.as 28 a8 .z (.p (.o8 hG (a5G _ _ _) (.cons (.t a8) (.cons (.t a8) (.cons (.t a8) .nil))) ?_)))))
  refine .q 14 hG ⟨fun hc34 => ?_,fun hc34 => ?_⟩
  ·refine .q 2 hG ?_
   refine .p (.bS0 (α:=m0) a8 y9 a1i (.p (.M8 (default:(I8 32 UInt8)) A5 M6 .nil a8 ?_)))
   refine .q 6 hG ?_
   refine⟨_,.r3 a8 (.cell y9 a8 .z3) (.cell A5 a8 .z2) (.tmp a8),?_⟩
   unfold a5p
   rw [F6 (Decidable.not_not.1 hc20),Q1 (r:=G9 (G9 a k m).1 (G9 a k m).2.1 F8) hc34];rfl
  ·refine .q 2 hG ?_
   refine .D7 [j1,j1,j0,j0,j1,j1] (by kernel_rfl) 5 [[],[],[(38,0)],[(39,1)],[]] [2,3] a8 (by kernel_rfl) a8 (by kernel_rfl) (by decide) ?_
   refine⟨_,fun H=>j6.S4 y9 (.t a8) (u4.app .z5) a8,?_⟩
   refine⟨_,fun H=>j6.S4 A5 (.t a8) (u4.app .z1) a8,?_⟩
   refine .inl (.inl ?_)
   refine⟨_,fun H=>j6.assign (.i a8) a8,?_⟩
   refine⟨⟨([],j2 [c8,c8,_,_,c8,c8]),a8⟩,?_⟩
   refine A0.R6 y9 (.t rfl) (.t rfl) .z3 ?_
   refine⟨⟨([],j2 [c8,c8,_,_,c8,c8]),a8⟩,?_⟩
   refine A0.R6 A5 (.t rfl) (.t rfl) .z2 ?_
   refine⟨⟨([],j2 [c8,c8,_,_,c8,c8]),a8⟩,?_⟩
   show D0 _ _ _ _ _ [] ((8,_)::(39,_)::(38,_)::_) _
   refine .q 2 hG ?_
   refine⟨_,.r3 a8 (.cell y9 a8 .z3) (.cell A5 a8 .z2) (.tmp a8),?_⟩
   unfold a5p
   rw [F6 (Decidable.not_not.1 hc20),F6 (r:=G9 (G9 a k m).1 (G9 a k m).2.1 F8) (Decidable.not_not.1 hc34)];rfl
theorem b8B (a:C9) (root:u7) (n:Int):p4 gl prog 28 [.v a,.v root,.v n] (fun r=>r = .t3 (.v (a7q a root n).1) (.v (a7q a root n).2.1) (.v (a7q a root n).2.2)):=by
 refine p4.jn func28 (by kernel_rfl) 50 rfl fun C hC hG => ?_
 refine .q 3 hG fun b3 => ?_
 refine .q 1 hG fun b4 => ?_
 refine .q 1 hG fun b6 => ?_
 refine .q 1 hG fun b7 => ?_
 refine .q 22 hG ?_
 refine .cond (.t a8) (fun hc26 => ?_) (fun hc26 => ?_)
 ·refine .q 2 hG ?_
  refine .p (.bS0 (α:=m0) a8 y9 a1i (.p (.bS0 (α:=x6) a8 U4 a90 ?_)))
  refine .q 5 hG ?_
  refine⟨_,.r3 a8 (.cell y9 a8 .z1) (.cell U4 a8 .z) (.tmp a8),?_⟩
  unfold a7q
  rw [if_pos (b6s hc26)]
 ·refine .q 2 hG ?_
  have hr:=a7p (a5P hc26)
  refine .a0O [[j1,j1,j1,j1],[j1,j1,j1,j1],[j1,j1,j1,j0],[j1,j1,j1,j0]] [[j1,j1,j1,j1],[j1,j1,j1,j1],[j1,j1,j1,j1],[j1,j1,j1,j1],[j1,j1,j1,j1],[j1,j1,j1,j1],[j1,j1,j1,j1],[j1,j1,j1,j1],[j1,j1,j1,j0],[j1,j1,j1,j0],[],[],[],[j1,j1,j1,j0]] [] [] 3 (by kernel_rfl) 14 [[],[],[(31,1)],[],[(33,3)],[(30,0),(32,2),(34,4)],[(35,5)],[(29,6)],[(29,6)],[(29,6)],[],[(36,7)],[(9,10),(37,8)],[(38,9)]] [10,11,12] rfl (by kernel_rfl) rfl (by kernel_rfl) rfl (by decide) (by simp) (fun p hp=>by cases hp) (by kernel_rfl) rfl ?_
  refine⟨_,fun H=>j6.S4 y9 (.t a8) (u4.app .z3) a8,?_⟩
  refine⟨_,fun H=>j6.A9 u7.l1 b7v a8 (.t a8) a8,?_⟩
  refine⟨_,fun H=>j6.ldF (fun x=>x.Key) A5 (.t a8) (u4.app .z2) (fun _=>a8) a8,?_⟩
  refine⟨_,fun H=>j6.move (.t a8) a8,?_⟩
  refine⟨_,fun H=>j6.o8 hG (b3X _ (by omega) (by omega)) (.cons (.t a8) .nil) a8,?_⟩
  refine⟨_,fun H=>j6.o8 hG (b8A _ _ _) (.cons (.t a8) (.cons (.t a8) (.cons (.t a8) .nil))) a8,?_⟩
  refine⟨_,fun H=>j6.move (.t a8) a8,?_⟩
  refine⟨_,fun H=>j6.O3 (.t a8) a8,?_⟩
  refine⟨_,fun H=>j6.O4 (.t a8) a8,?_⟩
  refine⟨_,fun H=>j6.O5 (.t a8) a8,?_⟩
  refine .inl (.inl (.inl ?_))
  refine⟨_,fun H=>j6.assign (.t a8) a8,?_⟩
  refine⟨a8,?_⟩
  refine⟨⟨j2 [c8,c8,c8,c8],a8⟩,fun Ys3 => ?_⟩
  refine A0.alloc A5 fun b9 => ?_
  refine⟨[_],_,a8,?_⟩
  refine⟨⟨j2 [c8,c8,c8,c8],a8⟩,fun Ys3 => ?_⟩
  refine A0.R6 y9 (.t rfl) (.t rfl) (.s (u4.app (u4.app .z3))) ?_
  refine⟨[_],_,a8,?_⟩
  refine⟨⟨j2 [c8,c8,c8,_],a8⟩,fun Ys3 => ?_⟩
  refine A0.R6 A5 (.t rfl) (.t rfl) .z ?_
  refine⟨[_],_,a8,?_⟩
  refine⟨⟨j2 [c8,c8,c8,_],a8⟩,fun ws3 => ?_⟩
  refine⟨⟨j2 [c8,c8,c8,_],a8⟩,fun _ => ?_⟩
  show D0 _ _ _ _ _ [] ((10,_)::(9,_)::(38,_)::(37,_)::(36,_)::(29,_)::(35,_)::(34,_)::(33,_)::(32,_)::(31,_)::(30,_)::_) _
  refine .q 8 hG ⟨fun hc40 => ?_,fun hc40 => ?_⟩
  ·refine .q 2 hG ?_
   refine .p (.bS0 (α:=m0) a8 y9 a1i (.p (.bS0 (α:=x6) a8 U4 a90 (.mv a8 (.n (.R6 y9 (.t a8) (.t a8) .z2 (.n (.R6 U4 (.t a8) (.t a8) .z1 (.ag a8 ?_)))))))))
   refine .q 2 hG ?_
   refine⟨_,.r3 a8 (.cell y9 a8 .z2) (.cell U4 a8 .z1) (.tmp a8),?_⟩
   unfold a7q
   rw [if_neg (by rw [a5P hc26];decide),Q1 hc40]
  ·refine .q 2 hG ?_
   refine .D7 [j1,j0,j0,j1,j1] (by kernel_rfl) 9 [[],[],[(45,1)],[],[],[(46,2),(47,3),(48,4)],[(44,0)],[(49,5)],[]] [6,7] a8 (by kernel_rfl) a8 (by kernel_rfl) (by decide) ?_
   refine⟨_,fun H=>j6.S4 y9 (.t a8) (u4.app .z4) a8,?_⟩
   refine⟨_,fun H=>j6.A9 u7.l0 b7u a8 (.t a8) a8,?_⟩
   refine⟨_,fun H=>j6.ldF (fun x=>x.Number) P5 (.t a8) (u4.app .z3) (fun _=>a8) a8,?_⟩
   refine⟨_,fun H=>j6.move (.t a8) a8,?_⟩
   refine⟨_,fun H=>j6.S4 A5 (.t a8) (u4.app .z) a8,?_⟩
   refine⟨_,fun H=>j6.bS3 x6.l0 x6.l1 x6.l3 a8 U4 a90 (fun c0 c1 c3=>(⟨c0,c1,[],c3⟩:x6)) (fun _ _ _=>a8) a8 a8 a8 a8 (.t a8) (.t a8) (.t a8) a8,?_⟩
   refine .inl (.inl ?_)
   refine⟨_,fun H=>j6.assign (.i a8) a8,?_⟩
   refine⟨⟨([],j2 [c8,_,_,c8,c8]),a8⟩,?_⟩
   refine A0.R6 y9 (.t rfl) (.t rfl) .z2 ?_
   refine⟨⟨([],j2 [c8,_,_,c8,c8]),a8⟩,?_⟩
   refine A0.R6 U4 (.t rfl) (.t rfl) .z1 ?_
   refine⟨⟨([],j2 [c8,_,_,c8,c8]),a8⟩,?_⟩
   show D0 _ _ _ _ _ [] ((8,_)::(49,_)::(48,_)::(47,_)::(46,_)::(45,_)::(44,_)::_) _
   refine .q 2 hG ?_
   refine⟨_,.r3 a8 (.cell y9 a8 .z2) (.cell U4 a8 .z1) (.tmp a8),?_⟩
   unfold a7q
   rw [if_neg (by rw [a5P hc26];decide),F6 (Decidable.not_not.1 hc40)]
theorem a9J (t:B0):p4 gl prog 139 [.v t] (fun r=>r = .v (a0C t)):=by
 refine p4.jn func139 (by kernel_rfl) 18 rfl fun C hC hG => ?_
 refine .q 3 hG fun b1 => ?_
 refine .q 22 hG ?_
 refine .e1 a8 a8 ?_
 rfl
theorem a5R (a:C9) (d:Dis) (p:Pred) (hd:d.l8.length≤1000000):p4 gl prog 83 [.v a,.v d,.v p] (fun r=>r = .t3 (.v (S9 a d p).1) (.v (S9 a d p).2.1) (.v (S9 a d p).2.2)):=by
 refine p4.jn func83 (by kernel_rfl) 54 rfl fun C hC hG => ?_
 refine .q 3 hG fun b3 => ?_
 refine .q 1 hG fun b4 => ?_
 refine .q 1 hG fun b5 => ?_
 refine .q 1 hG fun b6 => ?_
 refine .q 1 hG fun b7 => ?_
 refine .q 4 hG ?_
 refine .y6 hC .z2 (.L6 5 a8 .z2 ?_)
 refine .q 2 hG ?_
 refine .k hG (a0f _) ?_
 refine .q 2 hG ?_
 refine .cond (.t a8) (fun hc13 => ?_) (fun hc13 => ?_)
 ·refine .q 2 hG ?_
  refine .p (.bS0 (α:=m0) a8 y9 a1i (.p (.bS0 (α:=p6) a8 S7 a9j ?_)))
  refine .q 5 hG ?_
  refine⟨_,.r3 a8 (.cell y9 a8 .z1) (.cell S7 a8 .z) (.tmp a8),?_⟩
  unfold S9
  rw [if_pos (by simpa using hc13)]
 ·refine .q 9 hG ⟨fun hc18 => ?_,fun hc18 => ?_⟩
  ·refine .q 2 hG ?_
   refine .p (.bS0 (α:=m0) a8 y9 a1i (.p (.bS0 (α:=p6) a8 S7 a9j ?_)))
   refine .q 5 hG ?_
   refine⟨_,.r3 a8 (.cell y9 a8 .z1) (.cell S7 a8 .z) (.tmp a8),?_⟩
   unfold S9
   rw [if_neg (by simpa using hc13),if_pos hc18]
  ·refine .q 10 hG ⟨fun hc24 => ?_,fun hc24 => ?_⟩
   ·refine .q 2 hG ?_
    refine .p (.bS0 (α:=m0) a8 y9 a1i (.p (.bS0 (α:=p6) a8 S7 a9j ?_)))
    refine .q 5 hG ?_
    refine⟨_,.r3 a8 (.cell y9 a8 .z1) (.cell S7 a8 .z) (.tmp a8),?_⟩
    unfold S9
    rw [if_neg (by simpa using hc13),if_neg hc18,if_pos (by omega)]
   ·refine .q 2 hG ?_
    refine .a0O [[j1,j1,j1,j1,j1],[j1,j1,j1,j1,j1],[j1,j1,j1,j1,j0],[j1,j1,j1,j1,j0]] [[j1,j1,j1,j1,j1],[j1,j1,j1,j1,j1],[j1,j1,j1,j1,j1],[j1,j1,j1,j1,j1],[j1,j1,j1,j1,j1],[j1,j1,j1,j1,j1],[j1,j1,j1,j1,j1],[j1,j1,j1,j1,j1],[j1,j1,j1,j1,j0],[j1,j1,j1,j1,j0],[],[],[],[j1,j1,j1,j1,j0]] [] [] 3 (by kernel_rfl) 14 [[],[],[(29,1)],[],[(31,3)],[(28,0),(30,2),(32,4)],[(33,5)],[(27,6)],[(27,6)],[(27,6)],[],[(34,7)],[(9,10),(35,8)],[(36,9)]] [10,11,12] rfl (by kernel_rfl) rfl (by kernel_rfl) rfl (by decide) (by simp) (fun p hp=>by cases hp) (by kernel_rfl) rfl ?_
    refine⟨_,fun H=>j6.S4 y9 (.t a8) (u4.app .z4) a8,?_⟩
    refine⟨_,fun H=>j6.A9 p6.l2 a95 a8 (.t a8) a8,?_⟩
    refine⟨_,fun H=>j6.ldF (fun x=>x.Tag) A5 (.t a8) (u4.app .z3) (fun _=>a8) a8,?_⟩
    refine⟨_,fun H=>j6.G6 Q2 (.t a8) a8,?_⟩
    refine⟨_,fun H=>j6.o8 hG (a8H _) (.cons (.t a8) .nil) a8,?_⟩
    refine⟨_,fun H=>j6.o8 hG (a5G _ _ _) (.cons (.t a8) (.cons (.t a8) (.cons (.t a8) .nil))) a8,?_⟩
    refine⟨_,fun H=>j6.move (.t a8) a8,?_⟩
    refine⟨_,fun H=>j6.O3 (.t a8) a8,?_⟩
    refine⟨_,fun H=>j6.O4 (.t a8) a8,?_⟩
    refine⟨_,fun H=>j6.O5 (.t a8) a8,?_⟩
    refine .inl (.inl (.inl ?_))
    refine⟨_,fun H=>j6.assign (.t a8) a8,?_⟩
    refine⟨a8,?_⟩
    refine⟨⟨j2 [c8,c8,c8,c8,c8],a8⟩,fun Ys7 => ?_⟩
    refine A0.alloc A5 fun b9 => ?_
    refine⟨[_],_,a8,?_⟩
    refine⟨⟨j2 [c8,c8,c8,c8,c8],a8⟩,fun Ys7 => ?_⟩
    refine A0.R6 y9 (.t rfl) (.t rfl) (.s (u4.app (u4.app .z4))) ?_
    refine⟨[_],_,a8,?_⟩
    refine⟨⟨j2 [c8,c8,c8,c8,_],a8⟩,fun Ys7 => ?_⟩
    refine A0.R6 A5 (.t rfl) (.t rfl) .z ?_
    refine⟨[_],_,a8,?_⟩
    refine⟨⟨j2 [c8,c8,c8,c8,_],a8⟩,fun ws7 => ?_⟩
    refine⟨⟨j2 [c8,c8,c8,c8,_],a8⟩,fun _ => ?_⟩
    show D0 _ _ _ _ _ [] ((10,_)::(9,_)::(36,_)::(35,_)::(34,_)::(27,_)::(33,_)::(32,_)::(31,_)::(30,_)::(29,_)::(28,_)::_) _
    refine .q 8 hG ⟨fun hc38 => ?_,fun hc38 => ?_⟩
    ·refine .q 2 hG ?_
     refine .p (.bS0 (α:=m0) a8 y9 a1i (.p (.bS0 (α:=p6) a8 S7 a9j (.mv a8 (.n (.R6 y9 (.t a8) (.t a8) .z2 (.n (.R6 S7 (.t a8) (.t a8) .z1 (.ag a8 ?_)))))))))
     refine .q 2 hG ?_
     refine⟨_,.r3 a8 (.cell y9 a8 .z2) (.cell S7 a8 .z1) (.tmp a8),?_⟩
     unfold S9
     rw [if_neg (by simpa using hc13),if_neg hc18,if_neg (by omega),Q1 hc38]
    ·refine .q 2 hG ?_
     refine .a0O [[j1,j1,j1,j1,j1,j1],[j1,j1,j1,j1,j1,j1],[j1,j1,j1,j1,j1,j1],[j1,j1,j1,j1,j1,j1],[j1,j1,j1,j1,j0,j1],[j1,j1,j1,j1,j0,j1]] [[],[j1,j1,j1,j1,j1,j1],[j1,j1,j1,j1,j1,j1],[],[j1,j1,j1,j1,j1,j1],[j1,j1,j1,j1,j1,j1],[],[j1,j1,j1,j1,j0,j1],[j1,j1,j1,j1,j1,j1],[],[j1,j1,j1,j1,j0,j1],[]] [] [] 5 (by kernel_rfl) 12 [[],[],[(43,1)],[(42,0),(44,2)],[],[(46,4)],[(45,3),(47,5)],[],[],[(50,8),(48,6)],[],[(51,10),(49,7)]] [0,3,6,9,11] rfl (by kernel_rfl) rfl (by kernel_rfl) rfl (by decide) (by simp) (fun p hp=>by cases hp) (by kernel_rfl) rfl (.inl ?_)
     refine⟨_,fun H=>j6.A9 p6.l1 a55 a8 (.t a8) a8,?_⟩
     refine⟨_,fun H=>j6.ldF (fun x=>x.l8) a7I (.t a8) (u4.app .z4) (fun _=>a8) a8,?_⟩
     refine .inl ?_
     refine⟨_,fun H=>j6.G6 Q2 (.t a8) a8,?_⟩
     refine⟨_,fun H=>j6.E7 (α:=j3) Q2 underlying83 (.cons (.t a8) .nil) a8 (by decide) a8,?_⟩
     refine .inl ?_
     refine⟨_,fun H=>j6.S4 A5 (.t a8) (u4.app .z) a8,?_⟩
     refine⟨_,fun H=>j6.A9 p6.l1 a55 a8 (.t a8) a8,?_⟩
     refine .inl ?_
     refine⟨_,fun H=>j6.A9 p6.l2 a95 a8 (.t a8) a8,?_⟩
     refine .inl ?_
     refine⟨a8,?_⟩
     refine⟨⟨j2 [c8,c8,c8,c8,c8,c8],a8⟩,fun Ys10 => ?_⟩
     refine A0.buildSlice (α:=j3) Q2 underlying83 .nil rfl (by decide) fun b42 => ?_
     refine⟨[_],_,a8,?_⟩
     refine⟨⟨j2 [c8,c8,c8,c8,c8,c8],a8⟩,fun Ys10 => ?_⟩
     refine A0.append b8d (.inl ⟨_,underlying83⟩) rfl .z (.v (.t rfl)) (by simp<;>omega) (by simp<;>omega) (fun w45 => ?_) rfl
     refine⟨[_],_,a8,?_⟩
     refine⟨⟨j2 [c8,c8,c8,c8,c8,c8],a8⟩,fun Ys10 => ?_⟩
     refine A0.append b8d (.inl ⟨_,underlying83⟩) rfl .z (.v (.c rfl)) (by simp<;>omega) (by simp<;>omega) (fun w48 => ?_) rfl
     refine⟨[_],_,a8,?_⟩
     refine⟨⟨j2 [c8,c8,c8,c8,c8,c8],a8⟩,fun Ys10 => ?_⟩
     refine A0.u0 hC .z (A0.as 48 rfl .z (A0.stF (fun y x => { x with l8:=y }) a7I (.t rfl) (.t rfl) (.s (u4.app (u4.app .z4))) (fun _ _=>rfl) ?_))
     refine⟨[_],_,a8,?_⟩
     refine⟨⟨j2 [c8,c8,c8,c8,_,c8],a8⟩,fun Ys10 => ?_⟩
     refine A0.stF (fun y x => { x with Tag:=y }) A5 (.t rfl) (.t rfl) (.s (u4.app (u4.app .z4))) (fun _ _=>rfl) ?_
     refine⟨[_],_,a8,?_⟩
     refine⟨⟨j2 [c8,c8,c8,c8,_,c8],a8⟩,fun ws10 => ?_⟩
     refine⟨⟨j2 [c8,c8,c8,c8,_,c8],a8⟩,fun _ => ?_⟩
     show D0 _ _ _ _ _ [] ((51,_)::(50,_)::(49,_)::(48,_)::(47,_)::(46,_)::(45,_)::(44,_)::(43,_)::(42,_)::_) _
     refine .q 2 hG ?_
     refine .D7 [j1,j1,j0,j0,j1,j1,j1] (by kernel_rfl) 5 [[],[],[(52,0)],[(53,1)],[]] [2,3] a8 (by kernel_rfl) a8 (by kernel_rfl) (by decide) ?_
     refine⟨_,fun H=>j6.S4 y9 (.t a8) (u4.app .z6) a8,?_⟩
     refine⟨_,fun H=>j6.S4 S7 (.t a8) (u4.app .z5) a8,?_⟩
     refine .inl (.inl ?_)
     refine⟨_,fun H=>j6.assign (.i a8) a8,?_⟩
     refine⟨⟨([],j2 [c8,c8,_,_,c8,c8,c8]),a8⟩,?_⟩
     refine A0.R6 y9 (.t rfl) (.t rfl) .z3 ?_
     refine⟨⟨([],j2 [c8,c8,_,_,c8,c8,c8]),a8⟩,?_⟩
     refine A0.R6 S7 (.t rfl) (.t rfl) .z2 ?_
     refine⟨⟨([],j2 [c8,c8,_,_,c8,c8,c8]),a8⟩,?_⟩
     show D0 _ _ _ _ _ [] ((8,_)::(53,_)::(52,_)::_) _
     refine .q 2 hG ?_
     refine⟨_,.r3 a8 (.cell y9 a8 .z3) (.cell S7 a8 .z2) (.tmp a8),?_⟩
     unfold S9
     rw [if_neg (by simpa using hc13),if_neg hc18,if_neg (by omega),F6 (Decidable.not_not.1 hc38)];rfl
theorem c2u (a:C9) (d:Dis) (leaf:Tag) (r:Rq):p4 gl prog 74 [.v a,.v d,.v leaf,.v r] (fun x=>x = .t3 (.v (a2E a d leaf r).1) (.v (a2E a d leaf r).2.1) (.v (a2E a d leaf r).2.2)):=by
 refine p4.jn func74 (by kernel_rfl) 41 rfl fun C hC hG => ?_
 refine .q 3 hG fun b4 => ?_
 refine .q 1 hG fun b5 => ?_
 refine .q 1 hG fun b6 => ?_
 refine .q 1 hG fun b7 => ?_
 refine .q 1 hG fun b8 => ?_
 refine .q 1 hG fun b9 => ?_
 refine .q 6 hG ?_
 refine .k hG (b5u _) ?_
 refine .q 2 hG ?_
 refine .cond (.t a8) (fun hc15 => ?_) (fun hc15 => ?_)
 ·refine .q 2 hG ?_
  refine .p (.bS0 (α:=m0) a8 y9 a1i (.p (.bS0 (α:=p9) a8 a05 b5W ?_)))
  refine .q 5 hG ?_
  refine⟨_,.r3 a8 (.cell y9 a8 .z1) (.cell a05 a8 .z) (.tmp a8),?_⟩
  unfold a2E
  rw [if_pos (by simpa using hc15)]
 ·refine .q 2 hG ?_
  refine .a0O [[j1,j1,j1,j1,j1,j1],[j1,j1,j1,j1,j1,j1],[j1,j1,j1,j1,j1,j0],[j1,j1,j1,j1,j1,j0]] [[j1,j1,j1,j1,j1,j1],[j1,j1,j1,j1,j1,j1],[j1,j1,j1,j1,j1,j1],[j1,j1,j1,j1,j1,j1],[j1,j1,j1,j1,j1,j1],[j1,j1,j1,j1,j1,j1],[j1,j1,j1,j1,j1,j1],[j1,j1,j1,j1,j1,j1],[j1,j1,j1,j1,j1,j1],[j1,j1,j1,j1,j1,j0],[j1,j1,j1,j1,j1,j0],[],[],[],[j1,j1,j1,j1,j1,j0]] [] [] 3 (by kernel_rfl) 15 [[],[],[(20,1)],[],[],[(22,3),(23,4)],[(19,0),(21,2),(24,5)],[(25,6)],[(18,7)],[(18,7)],[(18,7)],[],[(26,8)],[(11,11),(27,9)],[(28,10)]] [11,12,13] rfl (by kernel_rfl) rfl (by kernel_rfl) rfl (by decide) (by simp) (fun p hp=>by cases hp) (by kernel_rfl) rfl ?_
  refine⟨_,fun H=>j6.S4 y9 (.t a8) (u4.app .z5) a8,?_⟩
  refine⟨_,fun H=>j6.A9 p6.l2 a95 a8 (.t a8) a8,?_⟩
  refine⟨_,fun H=>j6.ldF (fun x=>x.Tag) A5 (.t a8) (u4.app .z4) (fun _=>a8) a8,?_⟩
  refine⟨_,fun H=>j6.S4 A5 (.t a8) (u4.app .z3) a8,?_⟩
  refine⟨_,fun H=>j6.S4 a8v (.t a8) (u4.app .z2) a8,?_⟩
  refine⟨_,fun H=>j6.o8 hG (b4a _ _ (by simpa using ‹(!U5 r)=false›)) (.cons (.t a8) (.cons (.t a8) .nil)) a8,?_⟩
  refine⟨_,fun H=>j6.o8 hG (a5G _ _ _) (.cons (.t a8) (.cons (.t a8) (.cons (.t a8) .nil))) a8,?_⟩
  refine⟨_,fun H=>j6.move (.t a8) a8,?_⟩
  refine⟨_,fun H=>j6.O3 (.t a8) a8,?_⟩
  refine⟨_,fun H=>j6.O4 (.t a8) a8,?_⟩
  refine⟨_,fun H=>j6.O5 (.t a8) a8,?_⟩
  refine .inl (.inl (.inl ?_))
  refine⟨_,fun H=>j6.assign (.t a8) a8,?_⟩
  refine⟨a8,?_⟩
  refine⟨⟨j2 [c8,c8,c8,c8,c8,c8],a8⟩,fun Ys3 => ?_⟩
  refine A0.alloc A5 fun b11 => ?_
  refine⟨[_],_,a8,?_⟩
  refine⟨⟨j2 [c8,c8,c8,c8,c8,c8],a8⟩,fun Ys3 => ?_⟩
  refine A0.R6 y9 (.t rfl) (.t rfl) (.s (u4.app (u4.app .z5))) ?_
  refine⟨[_],_,a8,?_⟩
  refine⟨⟨j2 [c8,c8,c8,c8,c8,_],a8⟩,fun Ys3 => ?_⟩
  refine A0.R6 A5 (.t rfl) (.t rfl) .z ?_
  refine⟨[_],_,a8,?_⟩
  refine⟨⟨j2 [c8,c8,c8,c8,c8,_],a8⟩,fun ws3 => ?_⟩
  refine⟨⟨j2 [c8,c8,c8,c8,c8,_],a8⟩,fun _ => ?_⟩
  show D0 _ _ _ _ _ [] ((12,_)::(11,_)::(28,_)::(27,_)::(26,_)::(18,_)::(25,_)::(24,_)::(23,_)::(22,_)::(21,_)::(20,_)::(19,_)::_) _
  refine .q 8 hG ⟨fun hc30 => ?_,fun hc30 => ?_⟩
  ·refine .q 2 hG ?_
   refine .p (.bS0 (α:=m0) a8 y9 a1i (.p (.bS0 (α:=p9) a8 a05 b5W (.mv a8 (.n (.R6 y9 (.t a8) (.t a8) .z2 (.n (.R6 a05 (.t a8) (.t a8) .z1 (.ag a8 ?_)))))))))
   refine .q 2 hG ?_
   refine⟨_,.r3 a8 (.cell y9 a8 .z2) (.cell a05 a8 .z1) (.tmp a8),?_⟩
   unfold a2E
   rw [if_neg (by simpa using hc15),Q1 hc30]
  ·refine .q 2 hG ?_
   refine .D7 [j1,j0,j0,j1,j1,j1,j1] (by kernel_rfl) 10 [[],[],[(35,1)],[],[(37,3)],[],[(36,2),(38,4),(39,5)],[(34,0)],[(40,6)],[]] [7,8] a8 (by kernel_rfl) a8 (by kernel_rfl) (by decide) ?_
   refine⟨_,fun H=>j6.S4 y9 (.t a8) (u4.app .z6) a8,?_⟩
   refine⟨_,fun H=>j6.A9 p6.l0 b4F a8 (.t a8) a8,?_⟩
   refine⟨_,fun H=>j6.ldF (fun x=>x.l9) a3y (.t a8) (u4.app .z5) (fun _=>a8) a8,?_⟩
   refine⟨_,fun H=>j6.A9 p6.l1 a55 a8 (.t a8) a8,?_⟩
   refine⟨_,fun H=>j6.ldF (fun x=>x.l8) a7I (.t a8) (u4.app .z5) (fun _=>a8) a8,?_⟩
   refine⟨_,fun H=>j6.S4 A5 (.t a8) (u4.app .z) a8,?_⟩
   refine⟨_,fun H=>j6.bS3 p9.l0 p9.l1 p9.l2 a8 a05 b5W (fun c0 c1 c2=>(⟨c0,c1,c2⟩:p9)) (fun _ _ _=>a8) a8 a8 a8 a8 (.t a8) (.t a8) (.t a8) a8,?_⟩
   refine .inl (.inl ?_)
   refine⟨_,fun H=>j6.assign (.i a8) a8,?_⟩
   refine⟨⟨([],j2 [c8,_,_,c8,c8,c8,c8]),a8⟩,?_⟩
   refine A0.R6 y9 (.t rfl) (.t rfl) .z2 ?_
   refine⟨⟨([],j2 [c8,_,_,c8,c8,c8,c8]),a8⟩,?_⟩
   refine A0.R6 a05 (.t rfl) (.t rfl) .z1 ?_
   refine⟨⟨([],j2 [c8,_,_,c8,c8,c8,c8]),a8⟩,?_⟩
   show D0 _ _ _ _ _ [] ((10,_)::(40,_)::(39,_)::(38,_)::(37,_)::(36,_)::(35,_)::(34,_)::_) _
   refine .q 2 hG ?_
   refine⟨_,.r3 a8 (.cell y9 a8 .z2) (.cell a05 a8 .z1) (.tmp a8),?_⟩
   unfold a2E
   rw [if_neg (by simpa using hc15),F6 (Decidable.not_not.1 hc30)]
theorem b4f {p:Pass} {c:Cav} {b:Bool} (h:(decide ((64:Int)≤(p.j8.length:Int))||(c.Q9&&decide (8≤a1a p.j8)))=b):a6p p c=b:=by
 rw [←h];unfold a6p;congr 1;exact decide_eq_decide.2 (by omega)
theorem c1z (a:C9) (p:Pass) (c:Cav) (hp:p.j8.length≤1000000):p4 gl prog 138 [.v a,.v p,.v c] (fun r=>r = .t3 (.v (a4j a p c).1) (.v (a4j a p c).2.1) (.v (a4j a p c).2.2)):=by
 refine p4.jn func138 (by kernel_rfl) 59 rfl fun C hC hG => ?_
 refine .q 3 hG fun b3 => ?_
 refine .q 1 hG fun b4 => ?_
 refine .q 1 hG fun b5 => ?_
 refine .q 1 hG fun b6 => ?_
 refine .q 1 hG fun b7 => ?_
 refine .q 4 hG ?_
 refine .y6 hC .z2 (.L6 5 a8 .z2 ?_)
 refine .q 2 hG ?_
 refine .k hG (a4L _) ?_
 refine .q 2 hG ?_
 refine .cond (.t a8) (fun hc13 => ?_) (fun hc13 => ?_)
 ·refine .q 2 hG ?_
  refine .p (.bS0 (α:=m0) a8 y9 a1i (.p (.bS0 (α:=x6) a8 U4 a90 ?_)))
  refine .q 5 hG ?_
  refine⟨_,.r3 a8 (.cell y9 a8 .z1) (.cell U4 a8 .z) (.tmp a8),?_⟩
  unfold a4j
  rw [if_pos (by simpa using hc13)]
 ·refine .q 11 hG ?_
  refine .goU 20 a8 (.t a8) (fun hg23 => .move (.q a8 hg23) a8) (.gn 23 a8 a8 (fun hc24 hg24 => .A9 x6.l2 a9Z a8 (.t a8) a8) (.gn 23 a8 a8 (fun hc25 hg25 => .ldF (fun x=>x.j8) a86 (.ou a8 (Bool.and_eq_true_iff.2 ⟨hc25,beq_iff_eq.2 hg25⟩)) .z3 (fun _=>a8) a8) (.gn 23 a8 a8 (fun hc26 hg26 => .o8 hG (a9G _ hp) (.cons (.ou a8 (Bool.and_eq_true_iff.2 ⟨hc26,beq_iff_eq.2 hg26⟩)) .nil) a8) (.gn 23 a8 a8 (fun hc27 hg27 => .geq (.ou a8 (Bool.and_eq_true_iff.2 ⟨hc27,beq_iff_eq.2 hg27⟩)) (.i a8) a8) (.go 20 a8 (.t a8) (fun hg28 => .T5 (.ou a8 (beq_iff_eq.2 hg28)) (fun hp=>(.ou a8 (Bool.and_eq_true_iff.2 ⟨(beq_iff_eq.2 hg28),beq_iff_eq.2 hp⟩))) a8) ?_)))))
  refine .q 2 hG ?_
  refine .cond (.t a8) (fun hc29 => ?_) (fun hc29 => ?_)
  ·refine .q 2 hG ?_
   refine .p (.bS0 (α:=m0) a8 y9 a1i (.p (.bS0 (α:=x6) a8 U4 a90 ?_)))
   refine .q 5 hG ?_
   refine⟨_,.r3 a8 (.cell y9 a8 .z1) (.cell U4 a8 .z) (.tmp a8),?_⟩
   unfold a4j
   rw [if_neg (by simpa using hc13),if_pos (b4f hc29)]
  ·refine .q 2 hG ?_
   refine .a0O [[j1,j1,j1,j1,j1],[j1,j1,j1,j1,j1],[j1,j1,j1,j1,j0],[j1,j1,j1,j1,j0]] [[j1,j1,j1,j1,j1],[j1,j1,j1,j1,j1],[j1,j1,j1,j1,j1],[j1,j1,j1,j1,j1],[j1,j1,j1,j1,j1],[j1,j1,j1,j1,j1],[j1,j1,j1,j1,j1],[j1,j1,j1,j1,j1],[j1,j1,j1,j1,j0],[j1,j1,j1,j1,j0],[],[],[],[j1,j1,j1,j1,j0]] [] [] 3 (by kernel_rfl) 14 [[],[],[(34,1)],[],[(36,3)],[(33,0),(35,2),(37,4)],[(38,5)],[(32,6)],[(32,6)],[(32,6)],[],[(39,7)],[(9,10),(40,8)],[(41,9)]] [10,11,12] rfl (by kernel_rfl) rfl (by kernel_rfl) rfl (by decide) (by simp) (fun p hp=>by cases hp) (by kernel_rfl) rfl ?_
   refine⟨_,fun H=>j6.S4 y9 (.t a8) (u4.app .z4) a8,?_⟩
   refine⟨_,fun H=>j6.A9 x6.l3 a6F a8 (.t a8) a8,?_⟩
   refine⟨_,fun H=>j6.ldF (fun x=>x.Tag) A5 (.t a8) (u4.app .z3) (fun _=>a8) a8,?_⟩
   refine⟨_,fun H=>j6.G6 a1v (.t a8) a8,?_⟩
   refine⟨_,fun H=>j6.o8 hG (b6v _) (.cons (.t a8) .nil) a8,?_⟩
   refine⟨_,fun H=>j6.o8 hG (b8A _ _ _) (.cons (.t a8) (.cons (.t a8) (.cons (.t a8) .nil))) a8,?_⟩
   refine⟨_,fun H=>j6.move (.t a8) a8,?_⟩
   refine⟨_,fun H=>j6.O3 (.t a8) a8,?_⟩
   refine⟨_,fun H=>j6.O4 (.t a8) a8,?_⟩
   refine⟨_,fun H=>j6.O5 (.t a8) a8,?_⟩
   refine .inl (.inl (.inl ?_))
   refine⟨_,fun H=>j6.assign (.t a8) a8,?_⟩
   refine⟨a8,?_⟩
   refine⟨⟨j2 [c8,c8,c8,c8,c8],a8⟩,fun Ys5 => ?_⟩
   refine A0.alloc A5 fun b9 => ?_
   refine⟨[_],_,a8,?_⟩
   refine⟨⟨j2 [c8,c8,c8,c8,c8],a8⟩,fun Ys5 => ?_⟩
   refine A0.R6 y9 (.t rfl) (.t rfl) (.s (u4.app (u4.app .z4))) ?_
   refine⟨[_],_,a8,?_⟩
   refine⟨⟨j2 [c8,c8,c8,c8,_],a8⟩,fun Ys5 => ?_⟩
   refine A0.R6 A5 (.t rfl) (.t rfl) .z ?_
   refine⟨[_],_,a8,?_⟩
   refine⟨⟨j2 [c8,c8,c8,c8,_],a8⟩,fun ws5 => ?_⟩
   refine⟨⟨j2 [c8,c8,c8,c8,_],a8⟩,fun _ => ?_⟩
   show D0 _ _ _ _ _ [] ((10,_)::(9,_)::(41,_)::(40,_)::(39,_)::(32,_)::(38,_)::(37,_)::(36,_)::(35,_)::(34,_)::(33,_)::_) _
   refine .q 8 hG ⟨fun hc43 => ?_,fun hc43 => ?_⟩
   ·refine .q 2 hG ?_
    refine .p (.bS0 (α:=m0) a8 y9 a1i (.p (.bS0 (α:=x6) a8 U4 a90 (.mv a8 (.n (.R6 y9 (.t a8) (.t a8) .z2 (.n (.R6 U4 (.t a8) (.t a8) .z1 (.ag a8 ?_)))))))))
    refine .q 2 hG ?_
    refine⟨_,.r3 a8 (.cell y9 a8 .z2) (.cell U4 a8 .z1) (.tmp a8),?_⟩
    unfold a4j
    rw [if_neg (by simpa using hc13),if_neg (by rw [b4f hc29];decide),Q1 hc43]
   ·refine .q 2 hG ?_
    refine .a0O [[j1,j1,j1,j1,j1,j1],[j1,j1,j1,j1,j1,j1],[j1,j1,j1,j1,j1,j1],[j1,j1,j1,j1,j1,j1],[j1,j1,j1,j1,j0,j1],[j1,j1,j1,j1,j0,j1]] [[],[j1,j1,j1,j1,j1,j1],[j1,j1,j1,j1,j1,j1],[],[j1,j1,j1,j1,j1,j1],[j1,j1,j1,j1,j1,j1],[],[j1,j1,j1,j1,j0,j1],[j1,j1,j1,j1,j1,j1],[],[j1,j1,j1,j1,j0,j1],[]] [] [] 5 (by kernel_rfl) 12 [[],[],[(48,1)],[(47,0),(49,2)],[],[(51,4)],[(50,3),(52,5)],[],[],[(55,8),(53,6)],[],[(56,10),(54,7)]] [0,3,6,9,11] rfl (by kernel_rfl) rfl (by kernel_rfl) rfl (by decide) (by simp) (fun p hp=>by cases hp) (by kernel_rfl) rfl (.inl ?_)
    refine⟨_,fun H=>j6.A9 x6.l2 a9Z a8 (.t a8) a8,?_⟩
    refine⟨_,fun H=>j6.ldF (fun x=>x.j8) a86 (.t a8) (u4.app .z4) (fun _=>a8) a8,?_⟩
    refine .inl ?_
    refine⟨_,fun H=>j6.G6 a1v (.t a8) a8,?_⟩
    refine⟨_,fun H=>j6.E7 (α:=o5) a1v underlying24 (.cons (.t a8) .nil) a8 (by decide) a8,?_⟩
    refine .inl ?_
    refine⟨_,fun H=>j6.S4 A5 (.t a8) (u4.app .z) a8,?_⟩
    refine⟨_,fun H=>j6.A9 x6.l2 a9Z a8 (.t a8) a8,?_⟩
    refine .inl ?_
    refine⟨_,fun H=>j6.A9 x6.l3 a6F a8 (.t a8) a8,?_⟩
    refine .inl ?_
    refine⟨a8,?_⟩
    refine⟨⟨j2 [c8,c8,c8,c8,c8,c8],a8⟩,fun Ys8 => ?_⟩
    refine A0.buildSlice (α:=o5) a1v underlying24 .nil rfl (by decide) fun b47 => ?_
    refine⟨[_],_,a8,?_⟩
    refine⟨⟨j2 [c8,c8,c8,c8,c8,c8],a8⟩,fun Ys8 => ?_⟩
    refine A0.append c0k (.inl ⟨_,underlying24⟩) rfl .z (.v (.t rfl)) (by simp<;>omega) (by simp<;>omega) (fun w50 => ?_) rfl
    refine⟨[_],_,a8,?_⟩
    refine⟨⟨j2 [c8,c8,c8,c8,c8,c8],a8⟩,fun Ys8 => ?_⟩
    refine A0.append c0k (.inl ⟨_,underlying24⟩) rfl .z (.v (.c rfl)) (by simp<;>omega) (by simp<;>omega) (fun w53 => ?_) rfl
    refine⟨[_],_,a8,?_⟩
    refine⟨⟨j2 [c8,c8,c8,c8,c8,c8],a8⟩,fun Ys8 => ?_⟩
    refine A0.u0 hC .z (A0.as 53 rfl .z (A0.stF (fun y x => { x with j8:=y }) a86 (.t rfl) (.t rfl) (.s (u4.app (u4.app .z4))) (fun _ _=>rfl) ?_))
    refine⟨[_],_,a8,?_⟩
    refine⟨⟨j2 [c8,c8,c8,c8,_,c8],a8⟩,fun Ys8 => ?_⟩
    refine A0.stF (fun y x => { x with Tag:=y }) A5 (.t rfl) (.t rfl) (.s (u4.app (u4.app .z4))) (fun _ _=>rfl) ?_
    refine⟨[_],_,a8,?_⟩
    refine⟨⟨j2 [c8,c8,c8,c8,_,c8],a8⟩,fun ws8 => ?_⟩
    refine⟨⟨j2 [c8,c8,c8,c8,_,c8],a8⟩,fun _ => ?_⟩
    show D0 _ _ _ _ _ [] ((56,_)::(55,_)::(54,_)::(53,_)::(52,_)::(51,_)::(50,_)::(49,_)::(48,_)::(47,_)::_) _
    refine .q 2 hG ?_
    refine .D7 [j1,j1,j0,j0,j1,j1,j1] (by kernel_rfl) 5 [[],[],[(57,0)],[(58,1)],[]] [2,3] a8 (by kernel_rfl) a8 (by kernel_rfl) (by decide) ?_
    refine⟨_,fun H=>j6.S4 y9 (.t a8) (u4.app .z6) a8,?_⟩
    refine⟨_,fun H=>j6.S4 U4 (.t a8) (u4.app .z5) a8,?_⟩
    refine .inl (.inl ?_)
    refine⟨_,fun H=>j6.assign (.i a8) a8,?_⟩
    refine⟨⟨([],j2 [c8,c8,_,_,c8,c8,c8]),a8⟩,?_⟩
    refine A0.R6 y9 (.t rfl) (.t rfl) .z3 ?_
    refine⟨⟨([],j2 [c8,c8,_,_,c8,c8,c8]),a8⟩,?_⟩
    refine A0.R6 U4 (.t rfl) (.t rfl) .z2 ?_
    refine⟨⟨([],j2 [c8,c8,_,_,c8,c8,c8]),a8⟩,?_⟩
    show D0 _ _ _ _ _ [] ((8,_)::(58,_)::(57,_)::_) _
    refine .q 2 hG ?_
    refine⟨_,.r3 a8 (.cell y9 a8 .z3) (.cell U4 a8 .z2) (.tmp a8),?_⟩
    unfold a4j
    rw [if_neg (by simpa using hc13),if_neg (by rw [b4f hc29];decide),F6 (Decidable.not_not.1 hc43)];rfl
theorem b8C (a:C9) (p:Pass) (c:Cav):(a4j a p c).2.1.j8.length≤p.j8.length+1:=by
 unfold a4j a0U
 split
 ·exact Nat.zero_le _
 ·split
  ·exact Nat.zero_le _
  ·split
   ·simp
   ·exact Nat.zero_le _
theorem a7t {a:C9} {p:Pass} {l:List Pred} {i:Nat} (h:i < l.length):a1f a p (l.drop i)=a0U (a4j a p ⟨false,l[i],0,[],[]⟩) fun b q=>a1f b q (l.drop (i+1)):=by
 rw [List.drop_eq_getElem_cons h];rfl
theorem b0J {a:C9} {k:Tag} {m:List UInt8} {x:m9} (h:x∈(G9 a k m).1.x9):x∈a.x9:=by
 unfold G9 at h
 split at h
 ·cases h
 ·split at h
  ·exact h
  ·split at h
   ·cases h
   ·exact h
theorem b2l (a:C9) (p:Pass) (l:List Pred) (hp:p.j8.length+l.length≤1000000):p4 gl prog 79 [.v a,.v p,.v l] (fun r=>r = .t3 (.v (a1f a p l).1) (.v (a1f a p l).2.1) (.v (a1f a p l).2.2)):=by
 refine p4.jn func79 (by kernel_rfl) 40 rfl fun C hC hG => ?_
 refine .q 3 hG fun b3 => ?_
 refine .q 1 hG fun b4 => ?_
 refine .q 1 hG fun b6 => ?_
 refine .q 1 hG fun b7 => ?_
 refine .q 3 hG ?_
 refine .T3 2 a8 fun hl2 => ?_
 refine .q 9 hG ?_
 refine .D8 (α:=Nat×C9×Pass×Int) [(2,_),(3,_),(4,_),(6,_),(7,_)] (fun x R=>(9,.v x.2.2.2)::(10,.v (x.1:Int))::R) (fun x => [(true,.ob (ptr b7 0) (default:Pass)),(true,.ob (ptr b6 0) (default:C9)),(true,.ob (ptr b4 0) x.2.2.1),(true,.ob (ptr b3 0) x.2.1)]) (fun x=>x.1≤l.length∧(x.2.2.2=0→a1f a p l=a1f x.2.1 x.2.2.1 (l.drop x.1))∧(x.2.2.2≠0→a1f a p l=(default,default,x.2.2.2))∧x.2.2.1.j8.length≤p.j8.length+x.1) (fun x=>l.length - x.1) ((0,a,p,0)) (.c2 a8 a8 (.c2 a8 a8 (.cons a8 (.nil _)))) ?_ (.c2 a8 a8 (.c2 a8 a8 (.c2 a8 a8 (.cons a8 (.nil _))))) (a8) fun x hF => ?_
 ·exact⟨Nat.zero_le _,fun _=>a8,fun h=>absurd a8 h,Nat.le_refl _⟩
 obtain⟨i,b,q,e⟩:=x
 obtain⟨h1,h2,h3,h4⟩:=hF
 dsimp only at h1 h2 h3 h4 ⊢
 refine .q 12 hG ?_
 refine .cond (.t a8) (fun hc18 => ?_) (fun hc18 => ?_)
 ·refine .q 3 hG ?_
  have hlt:i < l.length∧e=0:=by simpa using hc18
  refine .a0O [[j1,j1,j1,j1],[j1,j1,j1,j0],[j1,j1,j0,j0]] [[j1,j1,j1,j1],[j1,j1,j1,j1],[j1,j1,j1,j1],[j1,j1,j1,j1],[j1,j1,j1,j1],[j1,j1,j1,j1],[j1,j1,j1,j1],[j1,j1,j1,j1],[j1,j1,j1,j1],[j1,j1,j1,j1],[j1,j1,j1,j0],[j1,j1,j0,j0],[],[],[j1,j1,j0,j0]] [] [] 2 (by kernel_rfl) 15 [[],[],[],[],[(24,2),(25,3)],[(26,4)],[(27,5)],[(22,0),(23,1),(28,6)],[(29,7)],[(21,8)],[(21,8)],[(21,8)],[(30,9)],[(31,10)],[(32,11)]] [12,13] rfl (by kernel_rfl) rfl (by kernel_rfl) rfl (by decide) (by simp) (fun p hp=>by cases hp) (by kernel_rfl) rfl ?_
  refine⟨_,fun H=>j6.S4 y9 (.t a8) (u4.app .z3) a8,?_⟩
  refine⟨_,fun H=>j6.S4 U4 (.t a8) (u4.app .z2) a8,?_⟩
  refine⟨_,fun H=>j6.move (.t a8) a8,?_⟩
  refine⟨_,fun H=>j6.move (.t a8) a8,?_⟩
  refine⟨_,fun H=>j6.idx Q2 underlying83 (.t a8) (.t a8) (by omega) (by omega) a8,?_⟩
  refine⟨_,fun H=>j6.G6 Q2 (.t a8) a8,?_⟩
  refine⟨_,fun H=>j6.bS1 o5.l1 a8 a1v b9J (fun c1=>(⟨false,c1,0,[],[]⟩:o5)) (fun _=>a8) a8 a8 (.t a8) a8,?_⟩
  refine⟨_,fun H=>j6.o8 hG (c1z _ _ _ (by omega)) (.cons (.t a8) (.cons (.t a8) (.cons (.t a8) .nil))) a8,?_⟩
  refine⟨_,fun H=>j6.move (.t a8) a8,?_⟩
  refine⟨_,fun H=>j6.O3 (.t a8) a8,?_⟩
  refine⟨_,fun H=>j6.O4 (.t a8) a8,?_⟩
  refine⟨_,fun H=>j6.O5 (.t a8) a8,?_⟩
  refine .inl (.inl ?_)
  refine⟨_,fun H=>j6.assign (.t a8) a8,?_⟩
  refine⟨a8,?_⟩
  refine⟨⟨j2 [c8,c8,c8,c8],a8⟩,fun Ys5 => ?_⟩
  refine A0.R6 y9 (.t rfl) (.t rfl) (u4.app (u4.app .z3)) ?_
  refine⟨[],_,a8,?_⟩
  refine⟨⟨j2 [c8,c8,c8,_],a8⟩,fun Ys5 => ?_⟩
  refine A0.R6 U4 (.t rfl) (.t rfl) (u4.app (u4.app .z2)) ?_
  refine⟨[],_,a8,?_⟩
  refine⟨⟨j2 [c8,c8,_,_],a8⟩,fun ws5 => ?_⟩
  refine⟨⟨j2 [c8,c8,_,_],a8⟩,fun _ => ?_⟩
  show D0 _ _ _ _ _ [] ((9,_)::(32,_)::(31,_)::(30,_)::(21,_)::(29,_)::(28,_)::(27,_)::(26,_)::(25,_)::(24,_)::(23,_)::(22,_)::_) _
  refine .q 3 hG ?_
  refine .ad (by omega) (by omega) ?_
  refine .q 2 hG ?_
  refine⟨(i+1,(a4j b q ⟨false,l[i],0,[],[]⟩).1,(a4j b q ⟨false,l[i],0,[],[]⟩).2.1,(a4j b q ⟨false,l[i],0,[],[]⟩).2.2),.c2 rfl rfl (.c2 rfl rfl (.c2 rfl rfl (.cons rfl (.nil _)))),rfl,?_,by dsimp only;omega⟩
  exact⟨by dsimp only;omega,fun h=>by dsimp only at h ⊢;rw [h2 hlt.2,a7t hlt.1,F6 h],fun h=>by dsimp only at h ⊢;rw [h2 hlt.2,a7t hlt.1,Q1 h],by have:=b8C b q ⟨false,l[i],0,[],[]⟩;dsimp only;omega⟩
 ·refine .q 8 hG ⟨fun hc34 => ?_,fun hc34 => ?_⟩
  ·refine .q 2 hG ?_
   refine .p (.bS0 (α:=m0) a8 y9 a1i (.p (.bS0 (α:=x6) a8 U4 a90 ?_)))
   refine .q 6 hG ?_
   refine⟨_,.r3 a8 (.cell y9 a8 .z1) (.cell U4 a8 .z) (.tmp a8),?_⟩
   rw [h3 hc34]
  ·refine .q 2 hG ?_
   refine .D7 [j0,j0,j1,j1] (by kernel_rfl) 5 [[],[],[(38,0)],[(39,1)],[]] [2,3] a8 (by kernel_rfl) a8 (by kernel_rfl) (by decide) ?_
   refine⟨_,fun H=>j6.S4 y9 (.t a8) (u4.app .z3) a8,?_⟩
   refine⟨_,fun H=>j6.S4 U4 (.t a8) (u4.app .z2) a8,?_⟩
   refine .inl (.inl ?_)
   refine⟨_,fun H=>j6.assign (.i a8) a8,?_⟩
   refine⟨⟨([],j2 [_,_,c8,c8]),a8⟩,?_⟩
   refine A0.R6 y9 (.t rfl) (.t rfl) .z1 ?_
   refine⟨⟨([],j2 [_,_,c8,c8]),a8⟩,?_⟩
   refine A0.R6 U4 (.t rfl) (.t rfl) .z ?_
   refine⟨⟨([],j2 [_,_,c8,c8]),a8⟩,?_⟩
   show D0 _ _ _ _ _ [] ((8,_)::(39,_)::(38,_)::_) _
   refine .q 2 hG ?_
   refine⟨_,.r3 a8 (.cell y9 a8 .z1) (.cell U4 a8 .z) (.tmp a8),?_⟩
   obtain rfl:e=0:=Decidable.not_not.1 hc34
   have hx:l.length≤i:=by simpa using hc18
   rw [h2 rfl,List.drop_of_length_le hx];rfl
theorem c3M (a:C9) (p:Pass) (b:c2r) (hp:p.j8.length≤1000000) (hb:∀ x∈a.x9,x.Y5.length≤1000000) (ht:b.l9.length≤1000000):p4 gl prog 81 [.v a,.v p,.v b] (fun r=>r = .t3 (.v (b2h a p b).1) (.v (b2h a p b).2.1) (.v (b2h a p b).2.2)):=by
 refine p4.jn func81 (by kernel_rfl) 54 rfl fun C hC hG => ?_
 refine .q 3 hG fun b3 => ?_
 refine .q 1 hG fun b4 => ?_
 refine .q 1 hG fun b5 => ?_
 refine .q 1 hG fun b6 => ?_
 refine .q 1 hG fun b7 => ?_
 refine .q 3 hG ?_
 refine .y6 hC .z2 (.L6 5 rfl .z2 (.a0O [[j1,j1,j1,j1,j1],[j1,j1,j1,j1,j1],[j1,j1,j1,j1,j0],[j1,j1,j1,j1,j0]] [[j1,j1,j1,j1,j1],[j1,j1,j1,j1,j1],[j1,j1,j1,j1,j1],[j1,j1,j1,j1,j1],[j1,j1,j1,j1,j1],[j1,j1,j1,j1,j1],[j1,j1,j1,j1,j1],[j1,j1,j1,j1,j1],[j1,j1,j1,j1,j1],[j1,j1,j1,j1,j0],[j1,j1,j1,j1,j0],[],[],[],[j1,j1,j1,j1,j0]] [] [] 3 (by kernel_rfl) 15 [[],[],[(14,1)],[],[(16,3)],[(17,4)],[(13,0),(15,2),(18,5)],[(19,6)],[(12,7)],[(12,7)],[(12,7)],[],[(20,8)],[(9,11),(21,9)],[(22,10)]] [11,12,13] rfl (by kernel_rfl) rfl (by kernel_rfl) rfl (by decide) (by simp) (fun p hp=>by cases hp) (by kernel_rfl) rfl ?_))
 refine⟨_,fun H=>j6.S4 y9 (.t a8) (u4.app .z4) a8,?_⟩
 refine⟨_,fun H=>j6.A9 x6.l3 a6F a8 (.t a8) a8,?_⟩
 refine⟨_,fun H=>j6.ldF (fun x=>x.Tag) A5 (.t a8) (u4.app .z3) (fun _=>a8) a8,?_⟩
 refine⟨_,fun H=>j6.A7 C3.l2 (fun x=>x.l9) a96 a8 (fun _=>a8) (.t a8) a8,?_⟩
 refine⟨_,fun H=>j6.G6 a3y (.t a8) a8,?_⟩
 refine⟨_,fun H=>j6.o8 hG (b3Y _ ht) (.cons (.t a8) .nil) a8,?_⟩
 refine⟨_,fun H=>j6.o8 hG (a5G _ _ _) (.cons (.t a8) (.cons (.t a8) (.cons (.t a8) .nil))) a8,?_⟩
 refine⟨_,fun H=>j6.move (.t a8) a8,?_⟩
 refine⟨_,fun H=>j6.O3 (.t a8) a8,?_⟩
 refine⟨_,fun H=>j6.O4 (.t a8) a8,?_⟩
 refine⟨_,fun H=>j6.O5 (.t a8) a8,?_⟩
 refine .inl (.inl (.inl ?_))
 refine⟨_,fun H=>j6.assign (.t a8) a8,?_⟩
 refine⟨a8,?_⟩
 refine⟨⟨j2 [c8,c8,c8,c8,c8],a8⟩,fun Ys1 => ?_⟩
 refine A0.alloc A5 fun b9 => ?_
 refine⟨[_],_,a8,?_⟩
 refine⟨⟨j2 [c8,c8,c8,c8,c8],a8⟩,fun Ys1 => ?_⟩
 refine A0.R6 y9 (.t rfl) (.t rfl) (.s (u4.app (u4.app .z4))) ?_
 refine⟨[_],_,a8,?_⟩
 refine⟨⟨j2 [c8,c8,c8,c8,_],a8⟩,fun Ys1 => ?_⟩
 refine A0.R6 A5 (.t rfl) (.t rfl) .z ?_
 refine⟨[_],_,a8,?_⟩
 refine⟨⟨j2 [c8,c8,c8,c8,_],a8⟩,fun ws1 => ?_⟩
 refine⟨⟨j2 [c8,c8,c8,c8,_],a8⟩,fun _ => ?_⟩
 show D0 _ _ _ _ _ [] ((10,_)::(9,_)::(22,_)::(21,_)::(20,_)::(12,_)::(19,_)::(18,_)::(17,_)::(16,_)::(15,_)::(14,_)::(13,_)::_) _
 refine .q 8 hG ⟨fun hc24 => ?_,fun hc24 => ?_⟩
 ·refine .q 2 hG ?_
  refine .p (.bS0 (α:=m0) a8 y9 a1i (.p (.bS0 (α:=x6) a8 U4 a90 (.mv a8 (.n (.R6 y9 (.t a8) (.t a8) .z2 (.n (.R6 U4 (.t a8) (.t a8) .z1 (.ag a8 ?_)))))))))
  refine .q 2 hG ?_
  refine⟨_,.r3 a8 (.cell y9 a8 .z2) (.cell U4 a8 .z1) (.tmp a8),?_⟩
  unfold b2h
  rw [Q1 (r:=G9 a p.Tag (D1 b.l9)) hc24]
 ·refine .q 2 hG ?_
  have hb1:∀ x∈(G9 a p.Tag (D1 b.l9)).1.x9,x.Y5.length≤1000000:=fun x hx=>hb x (b0J hx)
  refine .a0O [[j1,j1,j1,j1,j1,j1],[j1,j1,j1,j1,j1,j0]] [[j1,j1,j1,j1,j1,j1],[j1,j1,j1,j1,j1,j1],[j1,j1,j1,j1,j1,j1],[j1,j1,j1,j1,j1,j1],[j1,j1,j1,j1,j1,j1],[j1,j1,j1,j1,j1,j1],[j1,j1,j1,j1,j1,j1],[j1,j1,j1,j1,j1,j0],[j1,j1,j1,j1,j1,j0],[],[j1,j1,j1,j1,j1,j0],[j1,j1,j1,j1,j1,j0]] [] [] 1 (by kernel_rfl) 12 [[],[],[],[(31,2)],[(29,0),(30,1),(32,3)],[(33,4)],[(28,5)],[(28,5)],[(28,5)],[(34,6)],[(35,7)],[(36,8)]] [9] rfl (by kernel_rfl) rfl (by kernel_rfl) rfl (by decide) (by simp) (fun p hp=>by cases hp) (by kernel_rfl) rfl ?_
  refine⟨_,fun H=>j6.S4 y9 (.t a8) (u4.app .z5) a8,?_⟩
  refine⟨_,fun H=>j6.S4 A5 (.t a8) (u4.app .z) a8,?_⟩
  refine⟨_,fun H=>j6.A7 C3.l1 (fun x=>x.Key) b9M a8 (fun _=>a8) (.t a8) a8,?_⟩
  refine⟨_,fun H=>j6.O6 (by decide) M6 (.t a8) a8,?_⟩
  refine⟨_,fun H=>j6.o8 hG (b5q _ _ _ _ hb1) (.cons (.t a8) (.cons (.t a8) (.cons (.i a8) (.cons (.t a8) .nil)))) a8,?_⟩
  refine⟨_,fun H=>j6.move (.t a8) a8,?_⟩
  refine⟨_,fun H=>j6.O3 (.t a8) a8,?_⟩
  refine⟨_,fun H=>j6.O4 (.t a8) a8,?_⟩
  refine⟨_,fun H=>j6.O5 (.t a8) a8,?_⟩
  refine .inl ?_
  refine⟨_,fun H=>j6.assign (.t a8) a8,?_⟩
  refine⟨_,fun H=>j6.assign (.t a8) a8,?_⟩
  refine⟨a8,?_⟩
  refine⟨⟨j2 [c8,c8,c8,c8,c8,c8],a8⟩,fun Ys4 => ?_⟩
  refine A0.R6 y9 (.t rfl) (.t rfl) (u4.app (u4.app .z5)) ?_
  refine⟨[],_,a8,?_⟩
  refine⟨⟨j2 [c8,c8,c8,c8,c8,_],a8⟩,fun ws4 => ?_⟩
  refine⟨⟨j2 [c8,c8,c8,c8,c8,_],a8⟩,fun _ => ?_⟩
  show D0 _ _ _ _ _ [] ((10,_)::(11,_)::(36,_)::(35,_)::(34,_)::(28,_)::(33,_)::(32,_)::(31,_)::(30,_)::(29,_)::_) _
  refine .q 8 hG ⟨fun hc38 => ?_,fun hc38 => ?_⟩
  ·refine .q 2 hG ?_
   refine .p (.bS0 (α:=m0) a8 y9 a1i (.p (.bS0 (α:=x6) a8 U4 a90 (.mv a8 (.n (.R6 y9 (.t a8) (.t a8) .z2 (.n (.R6 U4 (.t a8) (.t a8) .z1 (.ag a8 ?_)))))))))
   refine .q 2 hG ?_
   refine⟨_,.r3 a8 (.cell y9 a8 .z2) (.cell U4 a8 .z1) (.tmp a8),?_⟩
   unfold b2h
   rw [F6 (r:=G9 a p.Tag (D1 b.l9)) (Decidable.not_not.1 hc24),Q1 hc38]
  ·refine .q 3 hG ?_
   refine .p (.S4 y9 (.t a8) .z5 (.p (.S4 U4 (.t a8) .z4 (.p (.A7 C3.l0 (fun x=>x.G7) b9L a8 (fun _=>a8) (.t a8) (.p (.G6 P5 (.t a8) (.p (.A7 C3.l2 (fun x=>x.l9) a96 a8 (fun _=>a8) (.t a8) (.p (.G6 a3y (.t a8) (.mv a8 (.p (.bS4 o5.l0 o5.l2 o5.l3 o5.l4 a8 a1v b9J (fun c0 c2 c3 c4=>(⟨c0,default,c2,c3,c4⟩:o5)) (fun _ _ _ _=>a8) a8 a8 a8 a8 a8 .b (.t a8) (.t a8) (.t a8) (.p (.o8 hG (c1z _ _ _ hp) (.cons (.t a8) (.cons (.t a8) (.cons (.t a8) .nil))) (.p (.O3 (.t a8) (.p (.O4 (.t a8) (.p (.O5 (.t a8) (.n (.R6 y9 (.t a8) (.t a8) .z2 (.n (.R6 U4 (.t a8) (.t a8) .z1 (.ag a8 ?_)))))))))))))))))))))))))))
   refine .q 2 hG ?_
   refine⟨_,.r3 a8 (.cell y9 a8 .z2) (.cell U4 a8 .z1) (.tmp a8),?_⟩
   unfold b2h
   rw [F6 (r:=G9 a p.Tag (D1 b.l9)) (Decidable.not_not.1 hc24),F6 (Decidable.not_not.1 hc38)]
structure Made (a:C9) (n:Nat) (k:Tag) (m:List UInt8) (b:C9) (t:Tag):Prop where
 mac:G9 a k m=(b,t,0)
 again:G9 b k m=(b,t,0)
 look:m6 b k m=(t,true)
 len:b.G4.length≤a.G4.length+1
 c5y:a.G4.length≤b.G4.length
 old:∀ i (h:i < a.G4.length),m6 b a.G4[i].Key a.G4[i].Message=(a.G4[i].Tag,true)
 ok:H6 b (n+1)
theorem H6.b8D {a:C9} {n:Nat} (h:H6 a n) (i:Nat) (hi:i < a.G4.length):m6 a a.G4[i].Key a.G4[i].Message=(a.G4[i].Tag,true):=by
 obtain⟨h1,h2⟩:=h.tag i hi
 unfold m6
 cases hf:a.K1 with
 | true =>
  rw [if_pos rfl]
  unfold M7 S1
  rw [h.uniq i hi]
 | false =>
  rw [if_neg (by decide),if_neg (by omega),h2,hf];rfl
theorem H6.b0K {a:C9} {n:Nat} (h:H6 a n):∀ x∈a.x9,x.Plain.length≤1000000:=fun x hx=>by
 obtain⟨i,hi,rfl⟩:=List.getElem_of_mem hx
 have:=(h.box i hi).1
 omega
theorem b0L (k:Tag) (n:UInt64) (p:List UInt8):K6 k n (K6 k n p p.length) (K6 k n p p.length).length=p:=by
 rw [a7k,a7k]
 apply List.ext_getElem (by simp)
 intro i h1 h2
 simp [UInt8.xor_assoc]
theorem b2m (k:Tag) (n:Int) (p:List UInt8):(V5 k n p).length=p.length+8:=by simp [V5,D9,O9];omega
theorem a9K (k:Tag) (n:Int) (p:List UInt8):(Y1 k n p).take ((Y1 k n p).length - 32)=V5 k n p:=by
 rw [a2C]
 unfold Y1
 rw [List.take_left' (by rw [b2m];omega)]
theorem b6y (k:Tag) (n:Int) (p:List UInt8):(Y1 k n p).drop ((Y1 k n p).length - 32)=(a0e k.l (a3f.l++V5 k n p)).l:=by
 rw [a2C]
 unfold Y1
 rw [List.drop_left' (by rw [b2m];omega)]
theorem b6z (k:Tag) (n:Int) (p:List UInt8):a3C k (Y1 k n p)=p:=by
 unfold a3C
 rw [a9K]
 have h1:(V5 k n p).take 8=R9 (UInt64.ofInt n) 8:=by unfold V5;rw [List.take_left' (D9 _ _)]
 have h2:(V5 k n p).drop 8=K6 k (UInt64.ofInt n) p p.length:=by unfold V5;rw [List.drop_left' (D9 _ _)]
 rw [h1,h2,a7l,b0L]
structure P6 (a b:C9):Prop where
 free:b.K1=a.K1
 fresh:a.F7≤b.F7
 a0n:∃ l,b.G4=a.G4++l
 boxes:∃ l,b.x9=a.x9++l
theorem P6.refl (a:C9):P6 a a:=⟨rfl,Int.le_refl _,⟨[],(List.append_nil _).symm⟩,⟨[],(List.append_nil _).symm⟩⟩
theorem P6.trans {a b c:C9} (h:P6 a b) (g:P6 b c):P6 a c:=by
 obtain⟨l,hl⟩:=h.a0n
 obtain⟨m,hm⟩:=g.a0n
 obtain⟨p,hp⟩:=h.boxes
 obtain⟨q,hq⟩:=g.boxes
 exact⟨g.free.trans h.free,Int.le_trans h.fresh g.fresh,⟨l++m,by rw [hm,hl,List.append_assoc]⟩,⟨p++q,by rw [hq,hp,List.append_assoc]⟩⟩
theorem P6.c0B {a b:C9} (h:P6 a b) {x:m9} (hx:x∈a.x9):x∈b.x9:=by
 obtain⟨l,hl⟩:=h.boxes;rw [hl];exact List.mem_append_left _ hx
theorem look_eq {a:C9} {k t:Tag} {m:List UInt8}:m6 a k m=(t,true)↔(if a.K1 then (∃ x,S1 a k m=some x∧x.Tag=t) else (m.length≤4096∧a0e k.l m=t)):=by
  unfold m6 M7
  cases a.K1 with
  | true =>
    rw [if_pos rfl,if_pos rfl]
    cases S1 a k m with
    | none => constructor
              · intro h;cases h
              · rintro⟨x,h,_⟩;cases h
    | some x => constructor
                · intro h;exact⟨x,rfl,(Prod.mk.inj h).1⟩
                · rintro⟨y,h,rfl⟩;cases h;rfl
  | false =>
    rw [if_neg (show ¬(false=true) by decide),if_neg (show ¬(false=true) by decide)]
    by_cases h:4096 < m.length
    · rw [if_pos h];constructor
      · intro h;cases h
      · rintro⟨h,_⟩;omega
    · rw [if_neg h];constructor
      · intro h;exact⟨by omega,(Prod.mk.inj h).1⟩
      · rintro⟨_,rfl⟩;rfl
theorem P6.look {a b:C9} (h:P6 a b) {k t:Tag} {m:List UInt8} (hl:m6 a k m=(t,true)):m6 b k m=(t,true):=by
 rw [look_eq] at hl ⊢
 rw [h.free]
 cases hf:a.K1 with
 | true =>
  rw [hf,if_pos rfl] at hl
  rw [if_pos rfl]
  obtain⟨x,h1,h2⟩:=hl
  obtain⟨l,e⟩:=h.a0n
  refine⟨x,?_,h2⟩
  unfold S1 at *
  rw [e,List.find?_append,h1];rfl
 | false =>
  rw [hf,if_neg (by decide)] at hl
  rw [if_neg (by decide)];exact hl
theorem P6.looks {a b:C9} (h:P6 a b) {k:Tag} {m:List UInt8} (hl:(m6 a k m).2=true):(m6 b k m).2=true:=by
 rw [h.look (Prod.ext rfl hl)]
theorem c0C {a:C9} {k:Tag} {x p:List UInt8}:C4 a k x=(p,0)↔(if a.K1 then (∃ y,a.x9.find? (a3i k x)=some y∧y.Plain=p) else (¬(x.length < 40∨296 < x.length)∧(a0e k.l (a3f.l++x.take (x.length - 32))).l=x.drop (x.length - 32)∧a3C k x=p)):=by
  unfold C4
  cases a.K1 with
  | true =>
    rw [if_pos rfl,if_pos rfl]
    cases a.x9.find? (a3i k x) with
    | none => constructor
              · intro h;cases h
              · rintro⟨x,h,_⟩;cases h
    | some y => constructor
                · intro h;exact⟨y,rfl,(Prod.mk.inj h).1⟩
                · rintro⟨y,h,rfl⟩;cases h;rfl
  | false =>
    rw [if_neg (show ¬(false=true) by decide),if_neg (show ¬(false=true) by decide)]
    by_cases h:x.length < 40∨296 < x.length
    · rw [if_pos h];constructor
      · intro h;cases h
      · rintro⟨h2,_⟩;exact absurd h h2
    · rw [if_neg h]
      by_cases h2:(a0e k.l (a3f.l++x.take (x.length - 32))).l=x.drop (x.length - 32)
      · rw [if_pos h2];constructor
        · intro h3;exact⟨h,h2,(Prod.mk.inj h3).1⟩
        · rintro⟨_,_,rfl⟩;rfl
      · rw [if_neg h2];constructor
        · intro h;cases h
        · rintro⟨_,h3,_⟩;exact absurd h3 h2
theorem P6.opens {a b:C9} (h:P6 a b) {k:Tag} {x p:List UInt8} (hl:C4 a k x=(p,0)):C4 b k x=(p,0):=by
 rw [c0C] at hl ⊢
 rw [h.free]
 cases hf:a.K1 with
 | true =>
  rw [hf,if_pos rfl] at hl
  rw [if_pos rfl]
  obtain⟨y,h1,h2⟩:=hl
  obtain⟨l,e⟩:=h.boxes
  exact⟨y,by rw [e,List.find?_append,h1];rfl,h2⟩
 | false =>
  rw [hf,if_neg (by decide)] at hl
  rw [if_neg (by decide)];exact hl
theorem b2n (n:UInt64):∀ k,k≤8→(R9 n k).foldl (fun a c=>256*a+c.toNat) 0=n.toNat/2^(64 - 8*k):=by
 intro k
 induction k with
 | zero=>intro _;have:=n.toNat_lt;simp [R9];omega
 | succ k ih =>
  intro hk
  rw [a1s,List.foldl_append,ih (by omega)]
  simp only [List.foldl_cons,List.foldl_nil]
  rw [c3J n (56 - 8*k) (by omega)]
  have e1:2^(64 - 8*k)=256*2^(56 - 8*k):=by
   rw [show 64 - 8*k=8+(56 - 8*k) by omega,Nat.pow_add]
  rw [show 64 - 8*(k+1)=56 - 8*k by omega,e1,Nat.mul_comm 256 (2^(56 - 8*k)),←Nat.div_div_eq_div_mul]
  generalize n.toNat/2^(56 - 8*k)=q
  omega
theorem b2o {m n:UInt64} (h:R9 m 8=R9 n 8):m=n:=by
 have h1:=b2n m 8 (by omega)
 have h2:=b2n n 8 (by omega)
 rw [h,h2] at h1
 apply UInt64.toNat_inj.1
 simpa using h1.symm
theorem b8E (c:UInt8) (n:Int):(V4 c n).l=b1O c n 8++List.replicate 17 0:=by
 unfold V4
 have:(b1O c n 8).length=15:=a4D c n 8
 show(b1O c n 8).take 32++(default:Tag).l.drop (b1O c n 8).length=_
 rw [List.take_of_length_le (by omega),this];rfl
theorem b4g {c d:UInt8} {m n:Int} (h:V4 c m=V4 d n):c=d∧UInt64.ofInt m=UInt64.ofInt n:=by
 have h2:=congrArg (·.l) h
 simp only [b8E] at h2
 have h3:=List.append_inj_left h2 (by rw [a4D,a4D])
 unfold b1O at h3
 simp only [List.append_assoc] at h3
 have h4:=List.append_cancel_left h3
 simp only [List.singleton_append,List.cons.injEq] at h4
 exact⟨h4.1,b2o h4.2⟩
theorem a9L {m n:Int} (hm0:0≤m) (hm:m < 18446744073709551616) (hn0:0≤n) (hn:n < 18446744073709551616) (h:UInt64.ofInt m=UInt64.ofInt n):m=n:=by
 have h2:=congrArg UInt64.toNat h
 simp [UInt64.ofInt] at h2
 omega
theorem b5v {c:UInt8} {i j:Nat} (hi:i < 1000000) (hj:j < 1000000) (h:V4 c ((i+1:Nat):Int)=V4 c ((j+1:Nat):Int)):i=j:=by
 have:=a9L (by omega) (by omega) (by omega) (by omega) (b4g h).2
 omega
structure c0D (a:C9) (n:Nat) (k:Tag) (m:List UInt8) (b:C9) (t:Tag):Prop where
 eq:G9 a k m=(b,t,0)
 ok:H6 b (n+1)
 le:P6 a b
 look:m6 b k m=(t,true)
 boxes:b.x9=a.x9
 fresh:b.F7=a.F7
 a0n:∀ x∈b.G4,x∈a.G4∨(x.Key=k∧x.Message=m)
theorem H6.step {a:C9} {n:Nat} (h:H6 a n) (hn:n < 60000) (k:Tag) {m:List UInt8} (hm:m.length≤1000):∃ b t,c0D a n k m b t:=by
 have h1:=h.a0n
 have hok:=h.mac (by omega) (k:=k) hm
 cases hf:S1 a k m with
 | some x =>
  have e:G9 a k m=(a,x.Tag,0):=by unfold G9;rw [if_neg (by omega),hf]
  rw [e] at hok
  obtain⟨i,hi,rfl⟩:=List.getElem_of_mem (List.mem_of_find?_eq_some hf)
  have hx:=(a9w k m _).1 (List.find?_some hf)
  have hl:=h.b8D i hi
  rw [hx.1,hx.2] at hl
  exact⟨a,_,e,hok,P6.refl _,hl,a8,a8,fun x hx=>Or.inl hx⟩
 | none =>
  have e:=a3W (a:=a) (k:=k) (m:=m) (by omega) hf (by omega)
  rw [e] at hok
  have hi:a.G4.length < (a.G4 ++ [(⟨k,m,a3e a k m⟩:y3)]).length:=by simp
  have hl:=hok.b8D a.G4.length hi
  simp only [List.getElem_concat_length] at hl
  refine⟨_,_,e,hok,⟨rfl,Int.le_refl _,⟨_,rfl⟩,⟨[],by simp⟩⟩,hl,rfl,rfl,fun x hx => ?_⟩
  rcases List.mem_append.1 hx with h|h
  ·exact Or.inl h
  ·obtain rfl:=List.mem_singleton.1 h;exact Or.inr ⟨rfl,rfl⟩
structure b8F (a:C9) (n:Nat) (k:Tag) (m:List UInt8) (b:C9) (t:Tag):Prop where
 eq:a5p a k m=(b,t,0)
 ok:H6 b (n+2)
 le:P6 a b
 look:m6 b k m=(t,true)
 node:(m6 b t F8).2=true
 boxes:b.x9=a.x9
 fresh:b.F7=a.F7
 a0n:∀ x∈b.G4,x∈a.G4∨x.Message=m∨x.Message=F8
theorem H6.Z6 {a:C9} {n:Nat} (h:H6 a n) (hn:n < 50000) (k:Tag) {m:List UInt8} (hm:m.length≤1000):∃ b t,b8F a n k m b t:=by
 obtain⟨b,t,s⟩:=h.step (by omega) k hm
 obtain⟨c,u,s2⟩:=s.ok.step (by omega) t (m:=F8) (by decide)
 refine⟨c,t,?_,s2.ok,s.le.trans s2.le,s2.le.look s.look,by rw [s2.look],s2.boxes.trans s.boxes,s2.fresh.trans s.fresh,fun x hx => ?_⟩
 ·unfold a5p;rw [s.eq,F6 rfl];dsimp only;rw [s2.eq,F6 rfl]
 ·rcases s2.a0n x hx with h|⟨_,h⟩
  ·rcases s.a0n x h with h|⟨_,h⟩
   ·exact Or.inl h
   ·exact Or.inr (Or.inl h)
  ·exact Or.inr (Or.inr h)
structure c0E (a:C9) (n:Nat) (b:C9) (t:Tag):Prop where
 eq:Q4 a=(b,t,0)
 ok:H6 b (n+1)
 le:P6 a b
 boxes:b.x9=a.x9
 a0n:b.G4=a.G4
 fresh:b.F7=a.F7+1
 sym:a.K1=true→t=V4 107 b.F7
theorem H6.b0M {a:C9} {n:Nat} (h:H6 a n) (hn:n < 60000):∃ b t,c0E a n b t:=by
 have h1:=h.a6T
 have hok:=h.key (by omega)
 have e:Q4 a=(⟨a.K1,a.a4f,a.F7+1,a.G4,a.x9⟩,(if a.K1 then V4 107 (a.F7+1) else (derive a.a4f a8B (a.F7+1)).1),0):=by
  unfold Q4;rw [if_neg (by omega)]
 rw [e] at hok
 exact⟨_,_,e,hok,⟨rfl,by show a.F7≤a.F7+1;omega,⟨[],by simp⟩,⟨[],by simp⟩⟩,rfl,rfl,rfl,fun hf=>by rw [hf];rfl⟩
theorem H6.b5w {b:C9} {m:Nat} (hb:H6 b m) (hm:m≤60000) {i:Nat} (h:i < b.x9.length):C4 b b.x9[i].Key b.x9[i].Y5=(b.x9[i].Plain,0)∧b.x9[i].Y5.length=b.x9[i].Plain.length+40:=by
 have hl:=hb.boxes
 obtain⟨h1,h2,h3,h4⟩:=hb.box i h
 cases hf:b.K1 with
 | true =>
  rw [hf,if_pos rfl] at h4
  refine⟨?_,by rw [h4,List.length_append,I8.len,List.length_replicate];omega⟩
  cases hq:b.x9.find? (a3i b.x9[i].Key b.x9[i].Y5) with
  | none =>
   have:=List.find?_eq_none.1 hq b.x9[i] (List.getElem_mem h)
   simp [a3i] at this
  | some y =>
   rw [a3j hf hq]
   have hy:=List.find?_some hq
   obtain⟨j,hj,rfl⟩:=List.getElem_of_mem (List.mem_of_find?_eq_some hq)
   obtain⟨_,_,_,g4⟩:=hb.box j hj
   rw [hf,if_pos rfl] at g4
   simp only [a3i,Bool.and_eq_true,decide_eq_true_eq] at hy
   have e:=hy.2
   rw [g4,h4] at e
   obtain rfl:=b5v (by omega) (by omega) (I8.ext (List.append_inj_left e (by rw [I8.len,I8.len])))
   rfl
 | false =>
  rw [hf,if_neg (by decide)] at h4
  have hlen:b.x9[i].Y5.length=b.x9[i].Plain.length+40:=by rw [h4,a2C]
  refine⟨?_,hlen⟩
  rw [a5M hf (by omega)]
  ·rw [h4,b6z]
  ·rw [h4,a9K,b6y]
structure b8G (a:C9) (n:Nat) (k:Tag) (c:Int) (p:List UInt8) (b:C9) (x:List UInt8):Prop where
 eq:Q5 a k c p=(b,x,0)
 ok:H6 b (n+1)
 le:P6 a b
 opens:C4 b k x=(p,0)
 len:x.length=p.length+40
 a0n:b.G4=a.G4
 fresh:b.F7=a.F7
 at_:∃ i,∃ h:i < b.x9.length,b.x9[i]=⟨k,c,p,x⟩
 boxes:∀ y∈b.x9,y∈a.x9∨y=⟨k,c,p,x⟩
theorem H6.b2p {a:C9} {n:Nat} (ha:H6 a n) (hn:n < 50000) (k:Tag) {c:Int} {p:List UInt8} (hc0:0≤c) (hc1:c≤281474976710656) (hp:p.length≤256):∃ b x,b8G a n k c p b x:=by
 have hok:=ha.boxed (by omega) (k:=k) hc0 hc1 hp
 have hr:(decide (c < 0)||decide (281474976710656 < c))=false:=by simp;omega
 have hl:=ha.boxes
 cases hf:a.x9.find? (a4F k c p) with
 | some y =>
  have e:=a3h hr (by omega) hf
  rw [e] at hok
  obtain⟨i,hi,rfl⟩:=List.getElem_of_mem (List.mem_of_find?_eq_some hf)
  have hy:=List.find?_some hf
  simp only [a4F,Bool.and_eq_true,decide_eq_true_eq] at hy
  obtain⟨h1,h2⟩:=ha.b5w (by omega) hi
  obtain⟨⟨e1,e2⟩,e3⟩:=hy
  rw [e1,e3] at h1
  rw [e3] at h2
  refine⟨a,_,e,hok,P6.refl _,h1,h2,a8,a8,⟨i,hi,?_⟩,fun y hy=>Or.inl hy⟩
  rw [←e1,←e2,←e3]
 | none =>
  have e:=a2T hr (by omega) hf (by omega)
  rw [e] at hok
  have hi:a.x9.length < (a.x9 ++ [(⟨k,c,p,a3g a k c p⟩:m9)]).length:=by simp
  obtain⟨h1,h2⟩:=hok.b5w (by omega) hi
  simp only [List.getElem_concat_length] at h1 h2
  refine⟨_,_,e,hok,⟨rfl,Int.le_refl _,⟨[],by simp⟩,⟨_,rfl⟩⟩,h1,h2,rfl,rfl,⟨a.x9.length,hi,by simp⟩,fun y hy => ?_⟩
  rcases List.mem_append.1 hy with h|h
  ·exact Or.inl h
  ·exact Or.inr (List.mem_singleton.1 h)
theorem P6.walk {a b:C9} (h:P6 a b) {k:Tag} {l:List (List UInt8)} {r:List Tag} (hl:R1 (m6 a) k l=some r):R1 (m6 b) k l=some r:=by
 unfold R1 at *
 generalize (some [k]:Option (List Tag))=o at hl ⊢
 induction l generalizing o with
 | nil=>exact hl
 | cons m l ih =>
  rw [List.foldl_cons] at hl ⊢
  cases o with
  | none =>
   have:X5 (m6 a) none m=none:=rfl
   rw [this,a44] at hl;cases hl
  | some s =>
   have e:X5 (m6 a) (some s) m=X5 (m6 b) (some s) m:=by
    show(if (m6 a (s.getLastD default) m).2 then some (s ++ [(m6 a (s.getLastD default) m).1]) else none)=if (m6 b (s.getLastD default) m).2 then some (s ++ [(m6 b (s.getLastD default) m).1]) else none
    cases h2:(m6 a (s.getLastD default) m).2 with
    | false =>
     have:X5 (m6 a) (some s) m=none:=by
      show(if (m6 a (s.getLastD default) m).2 then some (s ++ [(m6 a (s.getLastD default) m).1]) else none)=none
      rw [h2];rfl
     rw [this,a44] at hl;cases hl
    | true=>rw [h.look (Prod.ext rfl h2)]
   rw [←e];exact ih _ hl
theorem P6.dis {a b:C9} (h:P6 a b) {k t:Tag} {x:List UInt8} {l:List Pred} (hl:V7 a k x l=some t):V7 b k x l=some t:=by
 unfold V7 at *
 have hg:∀ u,a6W a k x=some u→a6W b k x=some u:=fun u hu=>by
  unfold a6W at *
  cases h2:(m6 a k (a0v x)).2 with
  | false=>rw [h2] at hu;cases hu
  | true=>rw [h2] at hu;rw [h.look (Prod.ext rfl h2)];exact hu
 cases h0:a6W a k x with
 | none=>rw [h0,a5N] at hl;cases hl
 | some u =>
  rw [hg u h0];rw [h0] at hl
  clear h0
  induction l generalizing u with
  | nil=>exact hl
  | cons p l ih =>
   rw [List.foldl_cons] at hl ⊢
   have e:∀ v,V6 a (some u) p=some v→V6 b (some u) p=some v:=fun v hv=>by
    unfold V6 at *
    simp only [Option.bind_some] at hv ⊢
    split at hv
    ·next h3=>rw [h.look (Prod.ext rfl h3.2.2)];rw [if_pos ⟨h3.1,h3.2.1,rfl⟩];exact hv
    ·cases hv
   cases h4:V6 a (some u) p with
   | none=>rw [h4,a5N] at hl;cases hl
   | some v=>rw [e v h4];rw [h4] at hl;exact ih v hl
theorem b0N (p:Tag→List UInt8→Tag×Bool) (k:Tag) (l:List (List UInt8)) (m:List UInt8):R1 p k (l ++ [m])=X5 p (R1 p k l) m:=by
 unfold R1;rw [List.foldl_append];rfl
structure c0F (A:C9) (P:Pass) (g:Dis):Prop where
 tick:1≤g.l9.length∧g.l9.length≤100
 con:∀ p∈g.l8,y5 p=true∧p.Kind≠7
 a7J:g.l8.length≤8
 cav:∃ c∈P.j8,c.Q9=true∧c.l9=g.l9
 key:∃ bk:Tag,V7 A bk g.l9 g.l8=some g.Tag∧(A.K1=true→∃ n,bk=V4 107 n)
 box:∃ x∈A.x9,x.Y5=g.l9∧1≤x.E0
structure b6A (A:C9) (G:List Dis) (t:Tag) (c:Cav):Prop where
 th:∃ key bk g,g∈G∧m6 A t (D1 c.l9)=(key,true)∧C4 A key c.Y5=(bk.l,0)∧g.l9=c.l9∧V7 A bk g.l9 g.l8=some g.Tag
structure a0i (A:C9) (root:u7) (P:Pass) (G:List Dis) (T:List Tag) (n k:Nat):Prop where
 ok:H6 A n
 a4N:P.D3=root.Number∧1≤root.Number∧root.Number≤2
 a5S:1≤P.A6∧P.A6≤50
 a4I:P.j8.length≤k
 ngr:G.length≤k
 cav:∀ c∈P.j8,I5 c=true∧(E8 c).length≤200
 walk:R1 (m6 A) root.Key (G8 P.A6 P.j8)=some (root.Key::T)
 leaf:(root.Key::T).getLastD default=P.Tag
 a6Y:T.length=P.j8.length+1
 nodes:∀ t∈T,(m6 A t F8).2=true
 a7u:∀ i (h:i < P.j8.length),P.j8[i].Q9=true→b6A A G (T.getD i default) P.j8[i]
 a3E:∀ g∈G,c0F A P g
 nodup:(G.map (·.l9)).Nodup
 F9:∀ x∈A.x9,x.E0≤A.F7
 a6Z:A.K1=true→∀ x∈A.x9,x.Plain.length=32→∃ n:Int,x.Plain=(V4 107 n).l
def a3F (A:C9):Prop:=∀ x∈A.G4,∃ c,x.Message.head?=some c∧c≠114∧c≠98
theorem c0F.le {A B:C9} {P Q:Pass} {g:Dis} (h:c0F A P g) (hl:P6 A B) (hp:∀ c∈P.j8,c∈Q.j8):c0F B Q g:=by
 obtain⟨c,hc,hc2⟩:=h.cav
 obtain⟨bk,hb,hb2⟩:=h.key
 obtain⟨x,hx,hx2⟩:=h.box
 exact⟨h.tick,h.con,h.a7J,⟨c,hp c hc,hc2⟩,⟨bk,hl.dis hb,fun hf=>hb2 (hl.free▸hf)⟩,⟨x,hl.c0B hx,hx2⟩⟩
theorem b6A.le {A B:C9} {G H:List Dis} {t:Tag} {c:Cav} (h:b6A A G t c) (hl:P6 A B) (hg:∀ g∈G,g∈H):b6A B H t c:=by
 obtain⟨key,bk,g,h1,h2,h3,h4,h5⟩:=h.th
 exact⟨key,bk,g,hg g h1,hl.look h2,hl.opens h3,h4,hl.dis h5⟩
theorem a0i.le {A B : C9} {root : u7} {P : Pass} {G : List Dis} {T : List Tag} {n m k : Nat} (h : a0i A root P G T n k) (hl : P6 A B) (hb : H6 B m) (hn : ∀ x ∈ B.x9, x.E0 ≤ B.F7)
    (hp:A.K1=true→∀ x∈B.x9,x.Plain.length=32→∃ n:Int,x.Plain=(V4 107 n).l):a0i B root P G T m k :=
  ⟨hb,h.a4N,h.a5S,h.a4I,h.ngr,h.cav,hl.walk h.walk,h.leaf,h.a6Y,fun t ht=>hl.looks (h.nodes t ht),fun i hi h3=>(h.a7u i hi h3).le hl fun _ hg=>hg,
    fun g hg=>(h.a3E g hg).le hl fun _ hc=>hc,h.nodup,hn,fun hf=>hp (hl.free▸hf)⟩
theorem a0i.mac {A B:C9} {root:u7} {P:Pass} {G:List Dis} {T:List Tag} {n m k:Nat} (h:a0i A root P G T n k) (hl:P6 A B) (hb:H6 B m) (e:B.x9=A.x9):a0i B root P G T m k :=
 h.le hl hb (fun x hx=>Int.le_trans (h.F9 x (e▸hx)) hl.fresh) fun hf x hx=>h.a6Z hf x (e▸hx)
theorem a0i.wide {A:C9} {root:u7} {P:Pass} {G:List Dis} {T:List Tag} {n k m j:Nat} (h:a0i A root P G T n k) (hm:n≤m) (hj:k≤j):a0i A root P G T m j :=
 ⟨h.ok.le hm,h.a4N,h.a5S,Nat.le_trans h.a4I hj,Nat.le_trans h.ngr hj,h.cav,h.walk,h.leaf,h.a6Y,h.nodes,h.a7u,h.a3E,h.nodup,h.F9,h.a6Z⟩
theorem b2q {n:Int} (h:n≤50):(a1b n).length≤20:=by
 have:=B1 (n:=n.toNat) (by omega)
 unfold a1b;simp;omega
theorem a9M {c:Cav} (h:I5 c=true):a2D c = [99,97,118,101,97,116]++E8 c:=by unfold a2D W4;rw [if_pos h]
theorem a0i.start (free : Bool) (seed : Tag) {A : C9} {root : u7} (he : 1 ≤ root.Number ∧ root.Number ≤ 2) {n : Int} (hA : H6 A 2) (hm : A.G4 = []) (hb : A.x9 = []) (h0 : 1 ≤ n) (h1 : n ≤ 50) :
    ∃ B P T,a7q A root n=(B,P,0)∧a0i B root P [] T 4 0∧a3F B∧B.K1=A.K1∧P.A6=n:=by
  obtain⟨b,t,s⟩:=hA.Z6 (by omega) root.Key (m:=a1b n) (by have:=b2q h1;omega)
  have hbx:b.x9 = []:=s.boxes.trans hb
  refine⟨b,⟨root.Number,n,[],t⟩,[t],?_,⟨s.ok,⟨a8,he⟩,⟨h0,h1⟩,Nat.le_refl _,Nat.le_refl _,fun c hc=>(by cases hc),?_,a8,a8,fun u hu => ?_,fun i hi=>(by cases hi),fun g hg=>(by cases hg),List.nodup_nil,fun x hx=>(by rw [hbx] at hx;cases hx),fun _ x hx=>(by rw [hbx] at hx;cases hx)⟩,fun x hx => ?_,s.le.free,a8⟩
  · unfold a7q
    have hr:J7 root.Number n=true:=by unfold J7;simp;omega
    rw [if_neg (by rw [hr];decide),s.eq,F6 rfl]
  · show R1 (m6 b) root.Key [a1b n]=some [root.Key,t]
    show X5 (m6 b) (some [root.Key]) (a1b n)=_
    show(if (m6 b root.Key (a1b n)).2 then some ([root.Key] ++ [(m6 b root.Key (a1b n)).1]) else none)=_
    rw [s.look];rfl
  · obtain rfl:=List.mem_singleton.1 hu;exact s.node
  · rcases s.a0n x hx with h|h|h
    · rw [hm] at h;cases h
    · exact⟨109,by rw [h];rfl,by decide,by decide⟩
    · exact⟨110,by rw [h];rfl,by decide,by decide⟩
theorem b6B {A : C9} {root t u : Tag} {n : Int} {l : List Cav} {c : Cav} {T : List Tag} (h : R1 (m6 A) root (G8 n l) = some (root :: T)) (h2 : (root :: T).getLastD default = t) (h3 : m6 A t (a2D c) = (u, true)) :
    R1 (m6 A) root (G8 n (l ++ [c]))=some (root::(T ++ [u])):=by
  have e:G8 n (l ++ [c])=G8 n l ++ [a2D c]:=by unfold G8;rw [List.map_append];rfl
  rw [e,b0N,h]
  show(if (m6 A ((root::T).getLastD default) (a2D c)).2 then some ((root::T) ++ [(m6 A ((root::T).getLastD default) (a2D c)).1]) else none)=_
  rw [h2,h3];rfl
theorem a8I {T:List Tag} {u:Tag} {i:Nat} (h:i < T.length):(T ++ [u]).getD i default=T.getD i default:=by
 rw [List.getD_eq_getElem?_getD,List.getD_eq_getElem?_getD,List.getElem?_append_left h]
theorem a0i.att {A : C9} {root : u7} {P : Pass} {G H : List Dis} {T : List Tag} {n k : Nat} (h : a0i A root P G T n k) (hn : n < 1000) (hk : k < 8) {c : Cav} (hc : I5 c = true) (hcl : (E8 c).length ≤ 200) (hh : a3F A) :
    ∃ B Q u,a4j A P c=(B,Q,0)∧H6 B (n+2)∧P6 A B∧B.x9=A.x9∧B.F7=A.F7∧a3F B∧Q.D3=P.D3∧Q.A6=P.A6∧Q.j8=P.j8 ++ [c]∧Q.Tag=u ∧
      R1 (m6 B) root.Key (G8 Q.A6 Q.j8)=some (root.Key::(T ++ [u]))∧(m6 B u F8).2=true:=by
  obtain⟨b,t,s⟩:=h.ok.Z6 (by omega) P.Tag (m:=a2D c) (by rw [a9M hc,List.length_append];show 6+_≤_;omega)
  refine⟨b,⟨P.D3,P.A6,P.j8 ++ [c],t⟩,t,?_,s.ok,s.le,s.boxes,s.fresh,fun x hx => ?_,a8,a8,a8,a8,b6B (s.le.walk h.walk) h.leaf s.look,s.node⟩
  · unfold a4j
    have hm:a6p P c=false:=by
      have h1:=h.a4I
      have h2:=a0Q P.j8
      unfold a6p a1a
      rw [decide_eq_false (by omega),decide_eq_false (by omega)];simp
    rw [if_neg (by rw [hc];decide),if_neg (by rw [hm];decide),s.eq,F6 rfl]
  · rcases s.a0n x hx with h|h|h
    · exact hh x h
    · exact⟨99,by rw [h,a9M hc];rfl,by decide,by decide⟩
    · exact⟨110,by rw [h];rfl,by decide,by decide⟩
theorem a0i.first {A : C9} {root : u7} {P : Pass} {G : List Dis} {T : List Tag} {n k : Nat} (h : a0i A root P G T n k) (hn : n < 1000) (hk : k < 8) {p : Pred} (hp : y5 p = true) (hh : a3F A) :
    ∃ B Q U,a4j A P ⟨false,p,0,[],[]⟩=(B,Q,0)∧a0i B root Q G U (n+2) (k+1)∧a3F B∧B.K1=A.K1:=by
  have hc:I5 ⟨false,p,0,[],[]⟩=true:=by unfold I5;simp [hp]
  obtain⟨B,Q,u,h1,h2,h3,h4,h5,h6,h7,h8,h9,h10,h11,h12⟩:=h.att (H:=G) hn hk (c:=⟨false,p,0,[],[]⟩) hc (by unfold E8;have:=H5 (O1 hp);simp;omega) hh
  refine⟨B,Q,T ++ [u],h1,⟨h2,⟨h7.trans h.a4N.1,h.a4N.2⟩,by rw [h8];exact h.a5S,by rw [h9,List.length_append];have:=h.a4I;simp;omega,Nat.le_succ_of_le h.ngr,fun c hc => ?_,h11,?_,?_,fun t ht => ?_,fun i hi h3' => ?_,fun g hg => ?_,h.nodup,?_,?_⟩,h6,h3.free⟩
  · rw [h9] at hc
    rcases List.mem_append.1 hc with h|h
    · exact a0i.cav ‹_› c h
    · obtain rfl:=List.mem_singleton.1 h
      exact⟨‹_›,by unfold E8;have:=H5 (O1 hp);simp;omega⟩
  · rw [h10,←List.cons_append,List.getLastD_eq_getLast?,List.getLast?_append];rfl
  · rw [h9,List.length_append,List.length_append,h.a6Y];rfl
  · rcases List.mem_append.1 ht with h'|h'
    · exact h3.looks (h.nodes t h')
    · obtain rfl:=List.mem_singleton.1 h';exact h12
  · by_cases e:i < P.j8.length
    · have e2:Q.j8[i]=P.j8[i]:=by simp only [h9];exact List.getElem_append_left e
      rw [e2] at h3' ⊢
      rw [a8I (by rw [h.a6Y];omega)]
      exact(h.a7u i e h3').le h3 fun _ hg=>hg
    · have hi2:=hi
      rw [h9,List.length_append] at hi2
      have e3:i=P.j8.length:=by simp at hi2;omega
      have e2:Q.j8[i]=⟨false,p,0,[],[]⟩:=by simp only [h9];rw [List.getElem_append_right (by omega)];simp
      rw [e2] at h3';cases h3'
  · exact(h.a3E g hg).le h3 fun c hc=>by rw [h9];exact List.mem_append_left _ hc
  · intro x hx;rw [h5];exact h.F9 x (h4▸hx)
  · intro hf x hx;exact h.a6Z (h3.free▸hf) x (h4▸hx)
theorem H6.b8H {a:C9} {n:Nat} (h:H6 a n) (hn:n < 60000) {y z:m9} (hy:y∈a.x9) (hz:z∈a.x9) (e:y.Y5=z.Y5):y.E0=z.E0:=by
 obtain⟨i,hi,rfl⟩:=List.getElem_of_mem hy
 obtain⟨j,hj,rfl⟩:=List.getElem_of_mem hz
 obtain⟨_,a0,a1,h1⟩:=h.box i hi
 obtain⟨_,b0,b1,h2⟩:=h.box j hj
 have hl:=h.boxes
 cases hf:a.K1 with
 | true =>
  rw [hf,if_pos rfl] at h1 h2
  rw [h1,h2] at e
  obtain rfl:=b5v (by omega) (by omega) (I8.ext (List.append_inj_left e (by rw [I8.len,I8.len])))
  rfl
 | false =>
  rw [hf,if_neg (by decide)] at h1 h2
  rw [h1,h2] at e
  have e2:=congrArg (List.take 8) e
  unfold Y1 V5 at e2
  simp only [List.append_assoc] at e2
  rw [List.take_left' (D9 _ _),List.take_left' (D9 _ _)] at e2
  exact a9L a0 (by omega) b0 (by omega) (b2o e2)
theorem b2r (a:C9) (k:Tag) (t:List UInt8) (l:List Pred) (p:Pred):V7 a k t (l ++ [p])=V6 a (V7 a k t l) p:=by
 unfold V7;rw [List.foldl_append];rfl
theorem a7v {a:C9} {t u:Tag} {p:Pred} (hp:y5 p=true) (h7:p.Kind≠7) (h:m6 a t (W5 p)=(u,true)):V6 a (some t) p=some u:=by
 unfold V6;simp only [Option.bind_some];rw [h,if_pos ⟨hp,h7,rfl⟩]
theorem a5T {p:Pred} (h:y5 p=true):W5 p = [99,111,110,100,105,116,105,111,110]++u6 p:=by unfold W5 U8;rw [if_pos h]
theorem a7w {p:Pred} (h:y5 p=true):(W5 p).length≤40:=by
 rw [a5T h,List.length_append];have:=H5 (O1 h);show 9+_≤_;omega
theorem a0i.restrict {A : C9} {root : u7} {P : Pass} {G : List Dis} {g : Dis} {T : List Tag} {n k : Nat} (h : a0i A root P (G ++ [g]) T n k) (hn : n < 1000) (hh : a3F A) {p : Pred} (hp : y5 p = true) (h7 : p.Kind ≠ 7) (hc : g.l8.length < 8) :
    ∃ B d,S9 A g p=(B,d,0)∧a0i B root P (G ++ [d]) T (n+1) k∧a3F B∧B.K1=A.K1∧d.l8.length=g.l8.length+1:=by
  obtain⟨B,t,s⟩:=h.ok.step (by omega) g.Tag (m:=W5 p) (by have:=a7w hp;omega)
  have hB:=h.mac s.le s.ok s.boxes
  have hstep:∀ bk:Tag,V7 A bk g.l9 g.l8=some g.Tag→V7 B bk g.l9 (g.l8 ++ [p])=some t:=fun bk hb=>by
    rw [b2r,s.le.dis hb,a7v hp h7 s.look]
  refine⟨B,⟨g.l9,g.l8 ++ [p],t⟩,?_,⟨hB.ok,hB.a4N,hB.a5S,hB.a4I,?_,hB.cav,hB.walk,hB.leaf,hB.a6Y,hB.nodes,fun i hi h3 => ?_,fun d hd => ?_,?_,hB.F9,hB.a6Z⟩,fun x hx => ?_,s.le.free,by simp⟩
  · unfold S9
    rw [if_neg (by rw [hp];decide),if_neg h7,if_neg (by omega),s.eq,F6 rfl]
  · have:=hB.ngr;simpa using this
  · obtain⟨key,bk,d,h1,h2,h4,h5,h6⟩:=(h.a7u i hi h3).th
    rcases List.mem_append.1 h1 with hg|hg
    · exact⟨key,bk,d,List.mem_append_left _ hg,s.le.look h2,s.le.opens h4,h5,s.le.dis h6⟩
    · obtain rfl:=List.mem_singleton.1 hg
      exact⟨key,bk,_,List.mem_append_right _ (List.mem_singleton.2 a8),s.le.look h2,s.le.opens h4,h5,hstep bk h6⟩
  · rcases List.mem_append.1 hd with hg|hg
    · exact hB.a3E d (List.mem_append_left _ hg)
    · obtain rfl:=List.mem_singleton.1 hg
      have hg0:=h.a3E g (List.mem_append_right _ (List.mem_singleton.2 rfl))
      obtain⟨bk,hb,hb2⟩:=hg0.key
      obtain⟨x,hx,hx2⟩:=hg0.box
      refine⟨hg0.tick,fun q hq => ?_,by dsimp only;rw [List.length_append];simp;omega,hg0.cav,⟨bk,hstep bk hb,fun hf=>hb2 (s.le.free▸hf)⟩,⟨x,s.le.c0B hx,hx2⟩⟩
      rcases List.mem_append.1 hq with h'|h'
      · exact hg0.con q h'
      · obtain rfl:=List.mem_singleton.1 h';exact⟨hp,h7⟩
  · have:=hB.nodup;simpa using this
  · rcases s.a0n x hx with h'|⟨_,h'⟩
    · exact hh x h'
    · exact⟨99,by rw [h',a5T hp];rfl,by decide,by decide⟩
theorem a2Z (k:Tag):Z7 k ⟨0,150⟩=k.l ++ [0,150,1]:=by
 unfold Z7;rw [List.append_assoc];congr 1
 show J6 0++J6 150 = [0,150,1]
 simp [J6]
theorem a0i.c4V {A : C9} {root : u7} {P : Pass} {G : List Dis} {T : List Tag} {n k : Nat} (h : a0i A root P G T n k) (hn : n < 900) (hk : k < 8) (hh : a3F A) {c : b0I} (hp0 : 0 ≤ c.G7) (hp7 : c.G7 ≤ 7) (s : Y4) (hs : Q3 s = true) :
    ∃ A1 b,a32 A c ⟨0,150⟩=(A1,b,0)∧H6 A1 (n+2)∧∃ A2 P2,b2h A1 P b=(A2,P2,0)∧C4 A2 c.Key b.l9=(b.Key.l ++ [0,150,1],0)∧H6 A2 (n+6)∧b.l9.length≤100 ∧
      ∃ A3 g U,a5Q A2 b.Key b.l9 s=(A3,g,0)∧a0i A3 root P2 (G ++ [g]) U (n+8) (k+1)∧a3F A3∧A3.K1=A.K1∧g.l8.length=1:=by
  obtain⟨b1,kt,s1⟩:=h.ok.b0M (by omega)
  have hf0:=h.ok.a5I
  have hf1:=h.ok.a6T
  have hfr:=s1.fresh
  obtain⟨A1,x,s2⟩:=s1.ok.b2p (by omega) c.Key (c:=b1.F7) (p:=Z7 kt ⟨0,150⟩) (by omega) (by omega) (by rw [a2Z,List.length_append,I8.len];decide)
  have hx:x.length=75:=by rw [s2.len,a2Z,List.length_append,I8.len];rfl
  obtain⟨a2,kt2,s3⟩:=s2.ok.step (by omega) P.Tag (m:=D1 x) (by unfold D1;rw [List.length_append];simp;omega)
  obtain⟨a3,bx,s4⟩:=s3.ok.b2p (by omega) kt2 (c:=0) (p:=kt.l) (by omega) (by omega) (by rw [I8.len];decide)
  have hbx:bx.length=72:=by rw [s4.len,I8.len]
  have le13:=s1.le.trans (s2.le.trans (s3.le.trans s4.le))
  have hfr3:a3.F7=A.F7+1:=by rw [s4.fresh,s3.fresh,s2.fresh,s1.fresh]
  have hbox:∀ y∈a3.x9,y∈A.x9∨y=⟨c.Key,b1.F7,Z7 kt ⟨0,150⟩,x⟩∨y=⟨kt2,0,kt.l,bx⟩:=fun y hy=>by
    rcases s4.boxes y hy with h'|h'
    · rw [s3.boxes] at h'
      rcases s2.boxes y h' with h'|h'
      · rw [s1.boxes] at h';exact Or.inl h'
      · exact Or.inr (Or.inl h')
    · exact Or.inr (Or.inr h')
  have h3:a0i a3 root P G T (n+4) k:=by
    refine h.le le13 s4.ok (fun y hy => ?_) fun hf y hy hl => ?_
    · rcases hbox y hy with h'|rfl|rfl
      · have:=h.F9 y h';omega
      · dsimp only;omega
      · dsimp only;omega
    · rcases hbox y hy with h'|rfl|rfl
      · exact h.a6Z hf y h' hl
      · rw [a2Z,List.length_append,I8.len] at hl;simp at hl
      · exact⟨_,congrArg (·.l) (s1.sym hf)⟩
  have hh3:a3F a3:=fun y hy=>by
    rw [s4.a0n] at hy
    rcases s3.a0n y hy with h'|⟨_,h'⟩
    · rw [s2.a0n,s1.a0n] at h';exact hh y h'
    · exact⟨115,by rw [h'];rfl,by decide,by decide⟩
  have hc:I5 ⟨true,default,c.G7,x,bx⟩=true:=by unfold I5;simp;omega
  have hcl:(E8 ⟨true,default,c.G7,x,bx⟩).length≤200:=by
    have l1:=B1 (n:=c.G7.toNat) (by omega)
    have l2:=B1 (n:=x.length) (by omega)
    have l3:=B1 (n:=bx.length) (by omega)
    unfold E8 a0K;simp;omega
  obtain⟨A2,Q,u,e1,ok2,le2,bx2,fr2,hh2,q1,q2,q3,q4,w2,nd2⟩:=h3.att (H:=G) (by omega) hk hc hcl hh3
  obtain⟨a5,gt,s5⟩:=ok2.step (by omega) kt (m:=a0v x) (by unfold a0v;rw [List.length_append];simp;omega)
  have hpo:y5 (a2Y s)=true:=by unfold y5 a2Y;simp [hs]
  obtain⟨A3,t,s6⟩:=s5.ok.step (by omega) gt (m:=W5 (a2Y s)) (by have:=a7w hpo;omega)
  have le36:P6 a3 A3:=le2.trans (s5.le.trans s6.le)
  have le16:P6 A A3:=le13.trans le36
  have hopen:C4 A2 c.Key x=(kt.l ++ [0,150,1],0):=by rw [←a2Z];exact(s3.le.trans (s4.le.trans le2)).opens s2.opens
  have hdis:V7 A3 kt x [a2Y s]=some t:=by
    unfold V7 a6W
    rw [s6.le.look s5.look]
    exact a7v hpo (show(6:Int)≠7 by decide) s6.look
  have hbx6:A3.x9=a3.x9:=s6.boxes.trans (s5.boxes.trans bx2)
  have hfr6:A3.F7=a3.F7:=s6.fresh.trans (s5.fresh.trans fr2)
  obtain⟨i2,hi2,at2⟩:=s2.at_
  have hmem:(⟨c.Key,b1.F7,Z7 kt ⟨0,150⟩,x⟩:m9)∈A3.x9:=by
    rw [hbx6];exact(s3.le.trans s4.le).c0B (at2▸List.getElem_mem hi2)
  have hlast:T.getD P.j8.length default=P.Tag:=by
    have h1:=h.leaf
    have h2:=h.a6Y
    have hne:T ≠ []:=by intro e;rw [e] at h2;simp at h2
    rw [List.getLastD_eq_getLast?,List.getLast?_cons,] at h1
    rw [List.getD_eq_getElem?_getD,show P.j8.length=T.length - 1 by omega,←List.getLast?_eq_getElem?]
    rw [←h1]
    cases hq:T.getLast? with
    | none=>exact absurd (List.getLast?_eq_none_iff.1 hq) hne
    | some z=>rfl
  refine⟨A1,⟨c.G7,kt,x⟩,?_,s2.ok,A2,Q,?_,hopen,ok2,by dsimp only;omega,A3,⟨x,[a2Y s],t⟩,T ++ [u],?_,⟨s6.ok,⟨q1.trans h.a4N.1,h.a4N.2⟩,by rw [q2];exact h.a5S,by rw [q3,List.length_append];have:=h.a4I;simp;omega,by rw [List.length_append];have:=h.ngr;simp;omega,?_,(s5.le.trans s6.le).walk w2,?_,?_,fun v hv => ?_,fun i hi ht => ?_,fun g hg => ?_,?_,?_,?_⟩,?_,?_,rfl⟩
  · unfold a32
    have ht:(a0C ⟨0,150⟩&&decide (0≤c.G7)&&decide (c.G7≤7))=true:=by unfold a0C;simp;omega
    rw [if_neg (by rw [ht];decide),s1.eq,F6 rfl]
    dsimp only
    rw [s2.eq,F6 rfl]
  · unfold b2h
    dsimp only
    rw [s3.eq,F6 rfl]
    dsimp only
    rw [s4.eq,F6 rfl]
    exact e1
  · unfold a5Q
    dsimp only
    rw [s5.eq,F6 rfl]
    unfold S9
    rw [if_neg (by rw [hpo];decide),if_neg (show ¬(a2Y s).Kind=7 from(by show ¬(6:Int)=7;decide)),if_neg (by simp)]
    dsimp only
    rw [s6.eq,F6 rfl]
    rfl
  · intro d hd
    rw [q3] at hd
    rcases List.mem_append.1 hd with h'|h'
    · exact h.cav d h'
    · obtain rfl:=List.mem_singleton.1 h';exact⟨hc,hcl⟩
  · rw [q4,←List.cons_append,List.getLastD_eq_getLast?,List.getLast?_append];rfl
  · rw [q3,List.length_append,List.length_append,h.a6Y];rfl
  · rcases List.mem_append.1 hv with h'|h'
    · exact le16.looks (h.nodes v h')
    · obtain rfl:=List.mem_singleton.1 h';exact(s5.le.trans s6.le).looks nd2
  · by_cases e:i < P.j8.length
    · have e2:Q.j8[i]=P.j8[i]:=by simp only [q3];exact List.getElem_append_left e
      rw [e2] at ht ⊢
      rw [a8I (by rw [h.a6Y];omega)]
      exact(h.a7u i e ht).le le16 fun _ hg=>List.mem_append_left _ hg
    · have hi2:=hi
      rw [q3,List.length_append] at hi2
      obtain rfl:i=P.j8.length:=by simp at hi2;omega
      have e2:Q.j8[P.j8.length]=⟨true,default,c.G7,x,bx⟩:=by simp only [q3];rw [List.getElem_append_right (by omega)];simp
      rw [e2,a8I (by rw [h.a6Y];omega),hlast]
      exact⟨kt2,kt,⟨x,[a2Y s],t⟩,List.mem_append_right _ (List.mem_singleton.2 a8),(s4.le.trans le36).look s3.look,le36.opens s4.opens,a8,hdis⟩
  · rcases List.mem_append.1 hg with h'|h'
    · exact(h.a3E g h').le le16 fun d hd=>by rw [q3];exact List.mem_append_left _ hd
    · obtain rfl:=List.mem_singleton.1 h'
      refine⟨by dsimp only;omega,fun q hq => ?_,(show 1≤8 by decide),⟨⟨true,default,c.G7,x,bx⟩,by rw [q3];exact List.mem_append_right _ (List.mem_singleton.2 rfl),rfl,rfl⟩,⟨kt,hdis,fun hf=>⟨_,s1.sym (le16.free▸hf)⟩⟩,⟨_,hmem,rfl,by dsimp only;omega⟩⟩
      obtain rfl:=List.mem_singleton.1 hq;exact⟨hpo,show(6:Int)≠7 by decide⟩
  · rw [List.map_append,List.nodup_append]
    refine⟨h.nodup,by simp,fun a ha b hb e => ?_⟩
    simp only [List.map_cons,List.map_nil,List.mem_singleton] at hb
    obtain⟨g,hg,rfl⟩:=List.mem_map.1 ha
    obtain⟨y,hy,hy1,hy2⟩:=(h.a3E g hg).box
    have:=s6.ok.b8H (by omega) (le16.c0B hy) hmem (by rw [hy1,e,hb])
    have:=h.F9 y hy
    dsimp only at *
    omega
  · intro y hy;rw [hbx6] at hy;rw [hfr6];exact h3.F9 y hy
  · intro hf y hy;rw [hbx6] at hy;exact h3.a6Z (le36.free▸hf) y hy
  · intro y hy
    rcases s6.a0n y hy with h'|⟨_,h'⟩
    · rcases s5.a0n y h' with h'|⟨_,h'⟩
      · exact hh2 y h'
      · exact⟨103,by rw [h'];rfl,by decide,by decide⟩
    · exact⟨99,by rw [h',a5T hpo];rfl,by decide,by decide⟩
  · exact le16.free
abbrev Ring:=C8
abbrev Epo:=u7
def a34 (r:Ring) (n:Int):Option Epo:=r.Live.find? fun e=>decide (e.Number=n)
def a23 (l:List Bnd) (t:List UInt8):Option Bnd:=l.find? fun d=>decide (d.l9=t)
def a1g (f:Nat→Int) (n:Nat):Int:=(((List.range n).map f).find? fun e=>decide (e≠0)).getD 0
theorem a25 (f:Nat→Int) (n:Nat):a1g f (n+1)=if a1g f n≠0 then a1g f n else f n:=by
 unfold a1g
 rw [List.range_succ,List.map_append,List.find?_append]
 cases h:((List.range n).map f).find? fun e=>decide (e≠0) with
 | some e =>
  have:=List.find?_some h
  simp only [ne_eq,decide_not,Bool.not_eq_true',decide_eq_false_iff_not] at this
  simp [this]
 | none =>
  simp only [Option.none_or,Option.getD_none,ne_eq,not_true_eq_false,if_false]
  by_cases h0:f n=0
  ·simp [h0]
  ·simp [h0]
theorem b2s {f:Nat→Int} {n:Nat}:a1g f n=0↔∀ i,i < n→f i=0:=by
 induction n with
 | zero=>exact⟨fun _ i hi=>(by omega),fun _=>rfl⟩
 | succ n ih =>
  rw [a25]
  by_cases h:a1g f n=0
  ·rw [if_neg (by simpa using h)]
   exact⟨fun h2 i hi=>(by rcases Nat.lt_or_ge i n with h3|h3;exact ih.1 h i h3;(obtain rfl:i=n:=by omega);exact h2),fun h2=>h2 n (by omega)⟩
  ·rw [if_pos h]
   exact⟨fun h2=>absurd h2 h,fun h2=>absurd (ih.2 fun i hi=>h2 i (by omega)) h⟩
theorem b6C {f:Nat→Int} {n k:Nat} (hk:k < n) (h:a1g f k=0) (h2:f k≠0):a1g f n=f k:=by
 induction n with
 | zero=>omega
 | succ n ih =>
  rw [a25]
  rcases Nat.lt_or_ge k n with h3|h3
  ·have:=ih h3
   rw [if_pos (by rw [this];exact h2),this]
  ·obtain rfl:k=n:=by omega
   rw [if_neg (by simpa using h)]
def Z8 (a:C9) (b:P9) (c:Cav) (tag leaf:Tag):Int :=
 if (m6 a tag (D1 c.l9)).2=false then 14 else
 if (C4 a (m6 a tag (D1 c.l9)).1 c.Y5).2≠0∨(C4 a (m6 a tag (D1 c.l9)).1 c.Y5).1.length≠32 then 14 else
 match a23 b.j4 c.l9 with
 | none=>17
 | some d =>
  if (a1D a (S0 default (C4 a (m6 a tag (D1 c.l9)).1 c.Y5).1) c.l9 d.l8).2=false then 20 else
  if U9 a (a1D a (S0 default (C4 a (m6 a tag (D1 c.l9)).1 c.Y5).1) c.l9 d.l8).1 leaf b.Request≠(d.Proof,true) then 20 else 0
def a5U (b:P9) (d:Bnd):Bool := !(b.j8.any fun c=>c.Q9&&decide (c.l9=d.l9))
def a60 (b:P9):Bool:=b.j4.any (a5U b)
def thE (a:C9) (b:P9) (T:List Tag) (i:Nat):Int:=if (b.j8.getD i default).Q9 then Z8 a b (b.j8.getD i default) (T.getD i default) (T.getLastD default) else 0
def b6D (a:C9) (b:P9) (root:Epo):y4×Int :=
 if (X7 a root b.A6 b.j8).2≠0 then (default,19) else
 if a0B a ((X7 a root b.A6 b.j8).1.getLastD default) b.Request≠(b.Proof,true)∨(a1C a (X7 a root b.A6 b.j8).1).2≠0 then (default,19) else
 if a1g (thE a b (X7 a root b.A6 b.j8).1) b.j8.length≠0 then (default,a1g (thE a b (X7 a root b.A6 b.j8).1) b.j8.length) else
 if a60 b then (default,18) else (⟨(a1C a (X7 a root b.A6 b.j8).1).1,(X7 a root b.A6 b.j8).1.getLastD default⟩,0)
def a7K (a:C9) (g:Ring) (b:P9):y4×Int :=
 if K7 b≠0 then (default,K7 b) else
 match a34 g b.D3 with
 | none=>(default,16)
 | some root=>b6D a b root
theorem c2w {a:C9} {g:Ring} {b:P9} (h:K7 b≠0):a7K a g b=(default,K7 b):=by unfold a7K;rw [if_pos h]
theorem c3N {a:C9} {g:Ring} {b:P9} (h:K7 b=0) (h2:a34 g b.D3=none):a7K a g b=(default,16):=by unfold a7K;rw [if_neg (by simpa using h),h2]
theorem b0O {a:C9} {g:Ring} {b:P9} {root:Epo} (h:K7 b=0) (h2:a34 g b.D3=some root):a7K a g b=b6D a b root:=by unfold a7K;rw [if_neg (by simpa using h),h2]
theorem c3O {a:C9} {b:P9} {root:Epo} (h:(X7 a root b.A6 b.j8).2≠0):b6D a b root=(default,19):=by unfold b6D;rw [if_pos h]
theorem b0P {a : C9} {b : P9} {root : Epo} {T : List Tag} (h : X7 a root b.A6 b.j8 = (T, 0)) : b6D a b root =
    if a0B a (T.getLastD default) b.Request≠(b.Proof,true)∨(a1C a T).2≠0 then (default,19) else
    if a1g (thE a b T) b.j8.length≠0 then (default,a1g (thE a b T) b.j8.length) else
    if a60 b then (default,18) else (⟨(a1C a T).1,T.getLastD default⟩,0):=by
  unfold b6D;rw [h];rfl
structure b8I (a:C9) (b:P9) (c:Cav) (t leaf:Tag):Prop where
 th:∃ key plain d u,m6 a t (D1 c.l9)=(key,true)∧C4 a key c.Y5=(plain.l,0)∧a23 b.j4 c.l9=some d∧V7 a plain c.l9 d.l8=some u∧m6 a u (W6 leaf b.Request)=(d.Proof,true)
theorem a61 {l:List UInt8} (h:l.length=32):(S0 (default:Tag) l).l=l:=by
 show l.take 32++(default:Tag).l.drop l.length=l
 rw [List.take_of_length_le (by omega),List.drop_of_length_le (by rw [I8.len];omega),List.append_nil]
theorem a6q (t:Tag):S0 (default:Tag) t.l=t:=I8.ext (a61 t.len)
theorem b2t {a:C9} {b:P9} {c:Cav} {t leaf:Tag} (hr:U5 b.Request=true):Z8 a b c t leaf=0↔b8I a b c t leaf:=by
 constructor
 ·intro h
  unfold Z8 at h
  split at h
  ·cases h
  ·next h1 =>
   split at h
   ·cases h
   ·next h2 =>
    have h1:(m6 a t (D1 c.l9)).2=true:=by simpa using h1
    have h2:(C4 a (m6 a t (D1 c.l9)).1 c.Y5).2=0∧(C4 a (m6 a t (D1 c.l9)).1 c.Y5).1.length=32:=by simpa using h2
    split at h
    ·cases h
    ·next d hd =>
     split at h
     ·cases h
     ·next h3 =>
      split at h
      ·cases h
      ·next h4 =>
       have h3:(V7 a (S0 default (C4 a (m6 a t (D1 c.l9)).1 c.Y5).1) c.l9 d.l8).isSome=true:=by unfold a1D at h3;exact eq_true_of_ne_false h3
       obtain⟨u,hu⟩:=Option.isSome_iff_exists.1 h3
       have h4:U9 a u leaf b.Request=(d.Proof,true):=by
        have:U9 a (a1D a (S0 default (C4 a (m6 a t (D1 c.l9)).1 c.Y5).1) c.l9 d.l8).1 leaf b.Request=(d.Proof,true):=Decidable.not_not.1 h4
        unfold a1D at this;rw [hu] at this;exact this
       unfold U9 at h4
       rw [if_pos hr] at h4
       exact⟨_,_,d,u,Prod.ext a8 h1,Prod.ext (by rw [a61 h2.2]) h2.1,hd,hu,h4⟩
 ·rintro⟨key,plain,d,u,h1,h2,h3,h4,h5⟩
  unfold Z8
  have hp:plain.l.length=32:=plain.len
  rw [h1];dsimp only
  rw [h2];dsimp only
  rw [if_neg (by decide),if_neg (by simp [hp]),h3]
  dsimp only
  unfold a1D U9
  rw [a6q,h4,if_neg (by simp),if_pos hr]
  rw [if_neg (by simp [h5])]
structure c1A (a:C9) (k:Tag) (b:P9) (T:List Tag):Prop where
 chk:K7 b=0
 walk:R1 (m6 a) k (G8 b.A6 b.j8)=some (k::T)
 a6Y:T.length=b.j8.length+1
 nodes:∀ t∈T,(m6 a t F8).2=true
 proof:m6 a (T.getLastD default) (a2X b.Request)=(b.Proof,true)
 a7u:∀ i (h:i < b.j8.length),b.j8[i].Q9=true→b8I a b b.j8[i] (T.getD i default) (T.getLastD default)
 extra:a60 b=false
theorem a62 {b:P9} (h:K7 b=0):a9E b:=by
 unfold K7 at h
 split at h
 ·next h1=>exact absurd h h1
 ·next h1=>exact a4J (by simpa using h1)
theorem a5V {a:C9}:∀ {l:List Tag} {s:List Tag},(∀ t∈l,(m6 a t F8).2=true)→∃ r,l.foldl (Z6 a) (some s)=some (s++r)∧r.length=l.length
 | [],s,_=>⟨[],by simp,rfl⟩
 | t::l,s,h=>by
  rw [List.foldl_cons]
  have:Z6 a (some s) t=some (s ++ [(m6 a t F8).1]):=by
   show(if (m6 a t F8).2 then some (s ++ [(m6 a t F8).1]) else none)=_
   rw [if_pos (h t (by simp))]
  rw [this]
  obtain⟨r,h1,h2⟩:=a5V (a:=a) (l:=l) (s:=s ++ [(m6 a t F8).1]) fun u hu=>h u (by simp [hu])
  exact⟨(m6 a t F8).1::r,by rw [h1,List.append_assoc];rfl,by simp [h2]⟩
theorem a8J {a:C9}:∀ {l:List Tag} {s r:List Tag},l.foldl (Z6 a) (some s)=some r→∀ t∈l,(m6 a t F8).2=true
 | [],_,_,_=>fun t ht=>(by cases ht)
 | t::l,s,r,h=>by
  rw [List.foldl_cons] at h
  cases h2:(m6 a t F8).2 with
  | false =>
   have:Z6 a (some s) t=none:=by
    show(if (m6 a t F8).2 then some (s ++ [(m6 a t F8).1]) else none)=_
    rw [h2];rfl
   rw [this,a8E] at h;cases h
  | true =>
   have:Z6 a (some s) t=some (s ++ [(m6 a t F8).1]):=by
    show(if (m6 a t F8).2 then some (s ++ [(m6 a t F8).1]) else none)=_
    rw [h2];rfl
   rw [this] at h
   intro u hu
   rcases List.mem_cons.1 hu with rfl|hu
   ·exact h2
   ·exact a8J h u hu
theorem b6E {a:C9} {l:List Tag}:(a1C a l).2=0↔∀ t∈l,(m6 a t F8).2=true:=by
 unfold a1C a0L
 constructor
 ·intro h
  split at h
  ·next r hr=>exact a8J hr
  ·cases h
 ·intro h
  obtain⟨r,h1,_⟩:=a5V (s := []) h
  rw [h1]
theorem b4i {a:C9} {l:List Tag} (h:∀ t∈l,(m6 a t F8).2=true):(a1C a l).1.length=l.length:=by
 obtain⟨r,h1,h2⟩:=a5V (s := []) h
 unfold a1C a0L
 rw [h1];simpa using h2
theorem b2u {a:C9} {root:Epo} {n:Int} {l:List Cav} {T:List Tag} (h1:J7 root.Number n=true) (h2:l.all I5=true) (h:R1 (m6 a) root.Key (G8 n l)=some (root.Key::T)):X7 a root n l=(T,0):=by
 unfold X7;rw [if_neg (by rw [h1];decide),if_neg (by rw [h2];decide),h];rfl
theorem b4j {a:C9} {root:Epo} {n:Int} {l:List Cav} (h:(X7 a root n l).2=0):∃ T,R1 (m6 a) root.Key (G8 n l)=some (root.Key::T)∧T.length=l.length+1∧X7 a root n l=(T,0):=by
 unfold X7 at *
 split at h
 ·cases h
 ·next h1 =>
  split at h
  ·cases h
  ·next h2 =>
   rw [if_neg h1,if_neg h2]
   split at h
   ·next t ht =>
    obtain⟨T,e,hl⟩:=a5O (k:=root.Key) (show(G8 n l).foldl (X5 (m6 a)) (some [root.Key])=some t from ht)
    refine⟨T,by rw [ht,e];rfl,by rw [hl];simp [G8],by rw [e];rfl⟩
   ·cases h
theorem b4k {g:Ring} {n:Int} {root:Epo} (h:a34 g n=some root):root.Number=n:=by
 have:=List.find?_some h;simpa using this
theorem a47 {α:Type} [Inhabited α] {l:List α} {i:Nat} (h:i < l.length):l.getD i default=l[i]:=by
 rw [List.getD_eq_getElem?_getD,List.getElem?_eq_getElem h];rfl
theorem b8J {a:C9} {g:Ring} {b:P9} {root:Epo} {T:List Tag} (he:a34 g b.D3=some root) (h:c1A a root.Key b T):a7K a g b=(⟨(a1C a T).1,T.getLastD default⟩,0):=by
 have hb:=a62 h.chk
 have hn:=b4k he
 have hr:J7 root.Number b.A6=true:=by have:=hb.num;unfold J7;simp;omega
 have ht:=b2u hr (List.all_eq_true.2 hb.cav) h.walk
 have hq:U5 b.Request=true:=by have:=hb.range;unfold P0 at this;simp only [Bool.and_eq_true] at this;exact this.1
 rw [b0O h.chk he,b0P ht]
 have hf:a1g (thE a b T) b.j8.length=0:=b2s.2 fun i hi=>by
  unfold thE
  rw [a47 hi]
  split
  ·next h3=>exact(b2t hq).2 (h.a7u i hi h3)
  ·rfl
 rw [if_neg (by rw [b6E.2 h.nodes];unfold a0B;rw [if_pos hq,h.proof];simp),if_neg (by rw [hf];simp),if_neg (by rw [h.extra];decide)]
theorem b0Q {α:Type} (l:List α) (p:α→Bool):decide (0≤idx l p)=l.any p:=by
 rcases Bool.eq_false_or_eq_true (l.any p) with h|h
 ·rw [h]
  rw [List.any_eq_true] at h
  obtain⟨x,hx,hp⟩:=h
  have h2:=List.findIdx_lt_length_of_exists ⟨x,hx,hp⟩
  unfold idx;rw [if_pos h2];simp
 ·rw [h]
  rw [List.any_eq_false] at h
  rw [a3A fun j hj=>by simpa using h _ (List.getElem_mem hj)];rfl
theorem a8K (l:List Bnd) (p:Bnd→Bool):p4 gl prog 99 [.v l,.a8r prog p] (fun r=>r = .v (idx l p)):=by
 refine p4.jn func99 (by kernel_rfl) 19 rfl fun C hC hG => ?_
 refine .q 6 hG ?_
 refine .T3 0 a8 fun hl0 => ?_
 refine .q 6 hG ?_
 refine .D8 (α:=Nat) [(0,_),(1,_),(7,_)] (fun k R=>(8,.v (k:Int))::R) (fun k => []) (fun k=>k≤l.length∧∀ j (hj:j < l.length),j < k→p l[j]=false) (fun k=>l.length - k) (0) (.c2 a8 a8 (.cons a8 (.nil _))) ?_ (.c2 a8 a8 (.c2 a8 a8 (.nil _))) (a8) fun k hF => ?_
 ·simp
 obtain⟨h1,h2⟩:=hF
 refine .q 6 hG ⟨fun hc9 => ?_,fun hc9 => ?_⟩
 ·refine .q 13 hG ?_
  refine .ix (by omega) (by omega) ?_
  refine .q 1 hG ?_
  refine .p (.a4y a8 (.t a8) ?_)
  refine .q 1 hG ?_
  refine .cond (.t a8) (fun hc16 => ?_) (fun hc16 => ?_)
  ·refine .q 6 hG ?_
   refine .e1 a8 a8 ?_
   rw [a8A (by omega) (by simpa using hc16) h2]
  ·refine .q 2 hG ?_
   refine .ad (by omega) (by omega) ?_
   refine .q 2 hG ?_
   refine⟨k+1,.c2 rfl rfl (.c2 rfl rfl (.nil _)),rfl,?_,by omega⟩
   refine⟨by omega,fun j hj hjk => ?_⟩;rcases Nat.lt_or_ge j k with h|h;exact h2 j hj h;(obtain rfl:j=k:=by omega);simpa using hc16
 ·refine .q 3 hG ?_
  refine .p (.assign (.i a8) ?_)
  refine .q 2 hG ?_
  refine .e1 a8 a8 ?_
  rw [a3A fun j hj=>h2 j hj (by omega)]
theorem a1L (l:List Bnd) (p:Bnd→Bool):p4 gl prog 150 [.v l,.a8r prog p] (fun r=>r = .v (l.any p)):=by
 refine p4.jn func150 (by kernel_rfl) 9 rfl fun C hC hG => ?_
 refine .q 8 hG ?_
 refine .p (.o8 hG (a8K _ _) (.cons (.t a8) (.cons (.t a8) .nil)) ?_)
 refine .q 4 hG ?_
 refine .e1 a8 a8 ?_
 rw [b0Q]
theorem b2v (l:List Pred) (p:Pred→Bool):p4 gl prog 210 [.v l,.a8r prog p] (fun r=>r = .v (idx l p)):=by
 refine p4.jn func210 (by kernel_rfl) 19 rfl fun C hC hG => ?_
 refine .q 6 hG ?_
 refine .T3 0 a8 fun hl0 => ?_
 refine .q 6 hG ?_
 refine .D8 (α:=Nat) [(0,_),(1,_),(7,_)] (fun k R=>(8,.v (k:Int))::R) (fun k => []) (fun k=>k≤l.length∧∀ j (hj:j < l.length),j < k→p l[j]=false) (fun k=>l.length - k) (0) (.c2 a8 a8 (.cons a8 (.nil _))) ?_ (.c2 a8 a8 (.c2 a8 a8 (.nil _))) (a8) fun k hF => ?_
 ·simp
 obtain⟨h1,h2⟩:=hF
 refine .q 6 hG ⟨fun hc9 => ?_,fun hc9 => ?_⟩
 ·refine .q 13 hG ?_
  refine .ix (by omega) (by omega) ?_
  refine .q 1 hG ?_
  refine .p (.a4y a8 (.t a8) ?_)
  refine .q 1 hG ?_
  refine .cond (.t a8) (fun hc16 => ?_) (fun hc16 => ?_)
  ·refine .q 6 hG ?_
   refine .e1 a8 a8 ?_
   rw [a8A (by omega) (by simpa using hc16) h2]
  ·refine .q 2 hG ?_
   refine .ad (by omega) (by omega) ?_
   refine .q 2 hG ?_
   refine⟨k+1,.c2 rfl rfl (.c2 rfl rfl (.nil _)),rfl,?_,by omega⟩
   refine⟨by omega,fun j hj hjk => ?_⟩;rcases Nat.lt_or_ge j k with h|h;exact h2 j hj h;(obtain rfl:j=k:=by omega);simpa using hc16
 ·refine .q 3 hG ?_
  refine .p (.assign (.i a8) ?_)
  refine .q 2 hG ?_
  refine .e1 a8 a8 ?_
  rw [a3A fun j hj=>h2 j hj (by omega)]
theorem a4O (l:List Pred) (p:Pred→Bool):p4 gl prog 189 [.v l,.a8r prog p] (fun r=>r = .v (l.any p)):=by
 refine p4.jn func189 (by kernel_rfl) 9 rfl fun C hC hG => ?_
 refine .q 8 hG ?_
 refine .p (.o8 hG (b2v _ _) (.cons (.t a8) (.cons (.t a8) .nil)) ?_)
 refine .q 4 hG ?_
 refine .e1 a8 a8 ?_
 rw [b0Q]
theorem b4l (l:List Cav) (p:Cav→Bool):p4 gl prog 187 [.v l,.a8r prog p] (fun r=>r = .v (idx l p)):=by
 refine p4.jn func187 (by kernel_rfl) 19 rfl fun C hC hG => ?_
 refine .q 6 hG ?_
 refine .T3 0 a8 fun hl0 => ?_
 refine .q 6 hG ?_
 refine .D8 (α:=Nat) [(0,_),(1,_),(7,_)] (fun k R=>(8,.v (k:Int))::R) (fun k => []) (fun k=>k≤l.length∧∀ j (hj:j < l.length),j < k→p l[j]=false) (fun k=>l.length - k) (0) (.c2 a8 a8 (.cons a8 (.nil _))) ?_ (.c2 a8 a8 (.c2 a8 a8 (.nil _))) (a8) fun k hF => ?_
 ·simp
 obtain⟨h1,h2⟩:=hF
 refine .q 6 hG ⟨fun hc9 => ?_,fun hc9 => ?_⟩
 ·refine .q 13 hG ?_
  refine .ix (by omega) (by omega) ?_
  refine .q 1 hG ?_
  refine .p (.a4y a8 (.t a8) ?_)
  refine .q 1 hG ?_
  refine .cond (.t a8) (fun hc16 => ?_) (fun hc16 => ?_)
  ·refine .q 6 hG ?_
   refine .e1 a8 a8 ?_
   rw [a8A (by omega) (by simpa using hc16) h2]
  ·refine .q 2 hG ?_
   refine .ad (by omega) (by omega) ?_
   refine .q 2 hG ?_
   refine⟨k+1,.c2 rfl rfl (.c2 rfl rfl (.nil _)),rfl,?_,by omega⟩
   refine⟨by omega,fun j hj hjk => ?_⟩;rcases Nat.lt_or_ge j k with h|h;exact h2 j hj h;(obtain rfl:j=k:=by omega);simpa using hc16
 ·refine .q 3 hG ?_
  refine .p (.assign (.i a8) ?_)
  refine .q 2 hG ?_
  refine .e1 a8 a8 ?_
  rw [a3A fun j hj=>h2 j hj (by omega)]
theorem a9e (l:List Cav) (p:Cav→Bool):p4 gl prog 147 [.v l,.a8r prog p] (fun r=>r = .v (l.any p)):=by
 refine p4.jn func147 (by kernel_rfl) 9 rfl fun C hC hG => ?_
 refine .q 8 hG ?_
 refine .p (.o8 hG (b4l _ _) (.cons (.t a8) (.cons (.t a8) .nil)) ?_)
 refine .q 4 hG ?_
 refine .e1 a8 a8 ?_
 rw [b0Q]
theorem c0G (n:Nat):decide ((8:Int) < (n:Int))=decide (8 < n):=decide_eq_decide.2 (by omega)
theorem b8K (n:Nat):decide ((64:Int) < (n:Int))=decide (64 < n):=decide_eq_decide.2 (by omega)
theorem c1B (n:Nat):decide ((n:Int) < 1)=decide (n < 1):=decide_eq_decide.2 (by omega)
theorem b2w (n:Nat):decide ((1024:Int) < (n:Int))=decide (1024 < n):=decide_eq_decide.2 (by omega)
theorem c2x (d:Bnd):p4 gl prog 186 [.v d] (fun r=>r = .v (a1K d)):=by
 refine p4.jn func186 (by kernel_rfl) 7 rfl fun C hC hG => ?_
 refine .q 3 hG fun b1 => ?_
 refine .q 11 hG ?_
 refine .e1 a8 a8 ?_
 exact congrArg AV.v (c0G _)
theorem b8L (b:P9) (hl:b.j8.length≤1000000):p4 gl prog 146 [.v b] (fun r=>r = .v (S3 b)):=by
 refine p4.jn func146 (by kernel_rfl) 31 rfl fun C hC hG => ?_
 refine .q 3 hG fun b1 => ?_
 refine .q 3 hG ?_
 refine .y6 hC .z (.L6 1 a8 .z ?_)
 have hfl:=a0Q b.j8
 refine .draw (by kernel_rfl) 9 [[],[(4,0)],[(5,1)],[],[(7,3)],[(8,4)],[(9,5)],[(6,2),(10,6)],[(11,7)]] a8 (by kernel_rfl) a8 ?_
 refine⟨_,j6.A7 u1.l3 (fun x=>x.j8) W0 a8 (fun _=>a8) (.t a8) a8,?_⟩
 refine⟨_,j6.G6 a86 (.t a8) a8,?_⟩
 refine⟨_,j6.len underlying24 (.t a8) a8,?_⟩
 refine⟨_,j6.A7 u1.l3 (fun x=>x.j8) W0 a8 (fun _=>a8) (.t a8) a8,?_⟩
 refine⟨_,j6.G6 a86 (.t a8) a8,?_⟩
 refine⟨_,j6.o8 hG (a7r _ hl) (.cons (.t a8) .nil) a8,?_⟩
 refine⟨_,j6.len underlying83 (.t a8) a8,?_⟩
 refine⟨_,j6.sub (.t a8) (.t a8) (by omega) (by omega) a8,?_⟩
 refine⟨_,j6.assign (.t a8) a8,?_⟩
 show D0 _ _ _ _ _ [] ((3,_)::(11,_)::(10,_)::(9,_)::(8,_)::(7,_)::(6,_)::(5,_)::(4,_)::_) _
 refine .q 20 hG ?_
 refine .go 26 a8 (.t a8) (fun hg29 => .o8 hG (a1L _ _) (.cons (.q a8 hg29) (.cons (.a9A hG (fun x=>c2x x)) .nil)) a8) ?_
 refine .q 4 hG ?_
 refine .e1 a8 a8 ?_
 refine congrArg AV.v ?_
 unfold S3 a1a
 rw [b8K,c0G]
theorem c2y (p:Pred):p4 gl prog 190 [.v p] (fun r=>r = .v (!y5 p)):=by
 refine p4.jn func190 (by kernel_rfl) 6 rfl fun C hC hG => ?_
 refine .q 3 hG fun b1 => ?_
 refine .q 5 hG ?_
 refine .k hG (a1W _) ?_
 refine .q 4 hG ?_
 refine .e1 a8 a8 ?_
 rfl
theorem b2x (d:Bnd):p4 gl prog 151 [.v d] (fun r=>r = .v (a3k d)):=by
 refine p4.jn func151 (by kernel_rfl) 18 rfl fun C hC hG => ?_
 refine .q 3 hG fun b1 => ?_
 refine .q 17 hG ?_
 refine .go 13 a8 (.t a8) (fun hg16 => .o8 hG (a4O _ _) (.cons (.q a8 hg16) (.cons (.a9A hG (fun x=>c2y x)) .nil)) a8) ?_
 refine .q 4 hG ?_
 refine .e1 a8 a8 ?_
 refine congrArg AV.v ?_
 unfold a3k
 rw [c1B,b2w]
theorem b8M (p:Pred):p4 gl prog 191 [.v p] (fun r=>r = .v (decide (p.Kind=7))):=by
 refine p4.jn func191 (by kernel_rfl) 6 rfl fun C hC hG => ?_
 refine .q 3 hG fun b1 => ?_
 refine .q 10 hG ?_
 refine .e1 a8 a8 ?_
 rfl
theorem c0H (d:Bnd):p4 gl prog 152 [.v d] (fun r=>r = .v (a3D d)):=by
 refine p4.jn func152 (by kernel_rfl) 6 rfl fun C hC hG => ?_
 refine .q 3 hG fun b1 => ?_
 refine .q 6 hG ?_
 refine .p (.o8 hG (a4O _ _) (.cons (.t a8) (.cons (.a9A hG (fun x=>b8M x)) .nil)) ?_)
 refine .q 3 hG ?_
 refine .e1 a8 a8 ?_
 rfl
theorem b8N (x d:Bnd):p4 gl prog 192 [.v x,.p d] (fun r=>r = .v (decide (x.l9=d.l9))):=by
 refine p4.jn func192 (by kernel_rfl) 9 rfl fun C hC hG => ?_
 refine .q 3 hG fun b2 => ?_
 refine .q 8 hG ?_
 refine .p (.o8 hG (a07 _ _) (.cons (.t a8) (.cons (.t a8) .nil)) ?_)
 refine .q 3 hG ?_
 refine .e1 a8 a8 ?_
 rfl
theorem b0R {l:List Bnd} {k:Nat} (h:k≤l.length) (h2:V0 l k=true):a3l l=true:=by
 unfold a3l V0 at *
 rw [List.any_eq_true] at h2 ⊢
 obtain⟨i,hi,h3⟩:=h2
 exact⟨i,List.mem_range.2 (by have:=List.mem_range.1 hi;omega),h3⟩
theorem c0I (l:List Bnd):p4 gl prog 153 [.v l] (fun r=>r = .v (a3l l)):=by
 refine p4.jn func153 (by kernel_rfl) 18 rfl fun C hC hG => ?_
 refine .q 6 hG ?_
 refine .T3 0 a8 fun hl0 => ?_
 refine .q 6 hG ?_
 refine .D8 (α:=Nat) [(0,_),(5,_),(6,_)] (fun k R=>(7,.v (k:Int))::R) (fun k => []) (fun k=>k≤l.length∧V0 l k=false) (fun k=>l.length - k) (0) (.c2 a8 a8 (.cons a8 (.nil _))) ?_ (.c2 a8 a8 (.c2 a8 a8 (.nil _))) (a8) fun k hF => ?_
 ·exact⟨Nat.zero_le _,a8⟩
 obtain⟨h1,h2⟩:=hF
 refine .q 6 hG ⟨fun hc8 => ?_,fun hc8 => ?_⟩
 ·refine .q 6 hG ?_
  refine .ix (by omega) (by omega) ?_
  refine .q 2 hG fun b4 => ?_
  refine .q 4 hG ?_
  refine .y6 hC .z (.L6 4 a8 .z (.drop ?_))
  refine .q 3 hG ?_
  refine .p (.b6b a05 underlying27 (.t a8) (.t a8) (by omega) (by omega) (.p (.b0n hG (fun x=>b8N x _) (.cons (.t a8) .nil) (.p (.o8 hG (a1L _ _) (.cons (.t a8) (.cons (.t a8) .nil)) ?_)))))
  refine .q 1 hG ?_
  refine .cond (.t a8) (fun hc16 => ?_) (fun hc16 => ?_)
  ·refine .q 5 hG ?_
   refine .e1 a8 a8 ?_
   rw [b0R (k:=k+1) (by omega) (by rw [a30 l k (by omega)];exact Bool.or_eq_true_iff.2 (Or.inr hc16))]
  ·refine .q 2 hG ?_
   refine .ad (by omega) (by omega) ?_
   refine .q 2 hG ?_
   refine⟨k+1,.c2 rfl rfl (.c2 rfl rfl (.nil _)),rfl,?_,by omega⟩
   exact⟨by omega,by rw [a30 l k (by omega),h2];exact hc16⟩
 ·refine .q 6 hG ?_
  refine .e1 a8 a8 ?_
  obtain rfl:k=l.length:=by omega
  exact congrArg AV.v h2.symm
theorem b8O (c:Cav):p4 gl prog 148 [.v c] (fun r=>r = .v (!I5 c)):=by
 refine p4.jn func148 (by kernel_rfl) 6 rfl fun C hC hG => ?_
 refine .q 3 hG fun b1 => ?_
 refine .q 5 hG ?_
 refine .k hG (a8G _) ?_
 refine .q 4 hG ?_
 refine .e1 a8 a8 ?_
 rfl
theorem b2y {b:P9} (h:(!U5 b.Request||decide (b.D3 < 1)||decide (1000 < b.D3)||decide (b.A6 < 1)||decide (1073741824 < b.A6))=true):P0 b=false:=by
 simp only [Bool.or_eq_true,Bool.not_eq_true',decide_eq_true_eq] at h
 unfold P0
 rcases h with (((h|h)|h)|h)|h
 ·rw [h];rfl
 all_goals (cases U5 b.Request<;>simp<;>omega)
theorem a0R {b:P9} (h:(!U5 b.Request||decide (b.D3 < 1)||decide (1000 < b.D3)||decide (b.A6 < 1)||decide (1073741824 < b.A6))=false):P0 b=true:=by
 simp only [Bool.or_eq_false_iff,Bool.not_eq_false',decide_eq_false_iff_not] at h
 unfold P0
 rw [h.1.1.1.1];simp;omega
theorem c0J (b:P9) (hl:b.j8.length≤1000000):p4 gl prog 87 [.v b] (fun r=>r = .v (F5 b)):=by
 refine p4.jn func87 (by kernel_rfl) 48 rfl fun C hC hG => ?_
 refine .q 3 hG fun b1 => ?_
 refine .q 5 hG ?_
 refine .y6 hC .z (.L6 1 a8 .z ?_)
 refine .q 3 hG ?_
 refine .k hG (b3Z _) ?_
 refine .q 23 hG ?_
 refine .cond (.t a8) (fun hc3 => ?_) (fun hc3 => ?_)
 ·refine .q 5 hG ?_
  refine .e1 a8 a8 ?_
  unfold F5
  rw [if_pos (b2y hc3)]
 ·refine .q 3 hG ?_
  refine .k hG (b8L _ hl) ?_
  refine .q 2 hG ?_
  refine .cond (.t a8) (fun hc28 => ?_) (fun hc28 => ?_)
  ·refine .q 5 hG ?_
   refine .e1 a8 a8 ?_
   unfold F5
   rw [if_neg (by rw [a0R hc3];decide),if_pos hc28]
  ·refine .q 4 hG ?_
   refine .p (.o8 hG (a9e _ _) (.cons (.t a8) (.cons (.a9A hG (fun x=>b8O x)) .nil)) ?_)
   refine .q 3 hG ?_
   refine .go 35 a8 (.t a8) (fun hg38 => .o8 hG (a1L _ _) (.cons (.q a8 hg38) (.cons (.a9A hG (fun x=>b2x x)) .nil)) a8) ?_
   refine .q 3 hG ?_
   refine .cond (.t a8) (fun hc31 => ?_) (fun hc31 => ?_)
   ·refine .q 5 hG ?_
    refine .e1 a8 a8 ?_
    unfold F5
    rw [if_neg (by rw [a0R hc3];decide),if_neg (by rw [hc28];decide),if_pos hc31]
   ·refine .q 4 hG ?_
    refine .p (.o8 hG (a1L _ _) (.cons (.t a8) (.cons (.a9A hG (fun x=>c0H x)) .nil)) ?_)
    refine .q 2 hG ?_
    refine .cond (.t a8) (fun hc40 => ?_) (fun hc40 => ?_)
    ·refine .q 5 hG ?_
     refine .e1 a8 a8 ?_
     unfold F5
     rw [if_neg (by rw [a0R hc3];decide),if_neg (by rw [hc28];decide),if_neg (by rw [hc31];decide),if_pos hc40]
    ·refine .q 4 hG ?_
     refine .k hG (c0I _) ?_
     refine .q 2 hG ?_
     refine .cond (.t a8) (fun hc44 => ?_) (fun hc44 => ?_)
     ·refine .q 5 hG ?_
      refine .e1 a8 a8 ?_
      unfold F5
      rw [if_neg (by rw [a0R hc3];decide),if_neg (by rw [hc28];decide),if_neg (by rw [hc31];decide),if_neg (by rw [hc40];decide),if_pos hc44]
     ·refine .q 6 hG ?_
      refine .e1 a8 a8 ?_
      unfold F5
      rw [if_neg (by rw [a0R hc3];decide),if_neg (by rw [hc28];decide),if_neg (by rw [hc31];decide),if_neg (by rw [hc40];decide),if_neg (by rw [hc44];decide)]
theorem a63 (b:List UInt8) (l:List Int) (hb:b.length≤600000) (hl:0 < l.length) (hl2:l.length≤1000) (h:∀ n∈l,0≤n∧n≤281474976710656):E4 gl prog 154 [.v b,.v l] [] (fun r Hs=>∃ u,r = .raw u∧Hs = [.own 5 u (b++numsL l)]):=by
 refine E4.P8 func154 rfl (by kernel_rfl) 21 rfl rfl _ rfl _ rfl fun C hC hG => ?_
 refine .q 6 hG ?_
 refine .name 0 a8 fun w0=>(.C0 5 .z ?_)
 refine .q 6 hG ?_
 refine .D8 (α:=Nat×Value×List UInt8×Bool) [(7,_),(8,_)] (fun x R=>(0,.raw x.2.1)::(9,.v (x.1:Int))::R) (fun x => [(true,.usr x.2.1 (OF.mk 5 x.2.2.1 x.2.2.2))]) (fun x=>x.1≤l.length∧x.2.2.1=b++numsL (l.take x.1)∧(0 < x.1→x.2.2.2=true)) (fun x=>l.length - x.1) ((0,w0,b,false)) (.c2 a8 a8 (.nil _)) ?_ (.c2 a8 a8 (.c2 a8 a8 (.nil _))) (a8) fun x hF => ?_
 ·exact⟨Nat.zero_le _,by simp [numsL],by simp⟩
 obtain⟨k,w,c,o⟩:=x
 obtain⟨h1,h2,h3⟩:=hF
 dsimp only at h1 h2 h3 ⊢
 have hlen9:=a1z (l.take k) (fun n hn=>h n (List.mem_of_mem_take hn))
 have hc9:c.length≤607000:=(by rw [h2,List.length_append];have:(l.take k).length≤l.length:=(by simp;omega);omega)
 refine .q 6 hG ⟨fun hc10 => ?_,fun hc10 => ?_⟩
 ·refine .q 5 hG ?_
  refine .ix (by omega) (by omega) ?_
  refine .q 3 hG ?_
  refine .c1x hC .z (.as 0 a8 .z (.drop ?_))
  refine .q 3 hG ?_
  refine .k0 hG (a1x _ _ (by simp<;>omega) (h _ (List.getElem_mem _)).1 (h _ (List.getElem_mem _)).2) fun r16 Hs16 hr16 => ?_
  obtain⟨u16,rfl,rfl⟩:=hr16
  show D0 _ _ _ _ _ _ _ ((true,_)::_)
  refine .q 5 hG ?_
  refine .c1v .z ?_
  refine .q 1 hG ?_
  refine .ad (by omega) (by omega) ?_
  refine .q 2 hG ?_
  refine⟨(k+1,u16,_,true),.c2 rfl rfl (.c2 rfl rfl (.nil _)),rfl,?_,by dsimp only;omega⟩
  exact⟨by dsimp only;omega,by dsimp only;rw [a5K l k (by omega),←List.append_assoc,←h2];rfl,fun _=>rfl⟩
 ·refine .q 2 hG ?_
  refine .c1w (h3 (by omega)) .z ?_
  refine .q 5 hG ?_
  refine .e1 a8 a8 ?_
  refine⟨_,.cons .z (.nil),?_⟩
  exact⟨_,rfl,by rw [h2,List.take_of_length_le (by omega)]⟩
theorem b4m (u:Value) (b:List UInt8) (l:List Pred) (hb:b.length≤600000) (hl:l.length≤8) (h:∀ p∈l,y5 p=true):E4 gl prog 157 [.raw u,.v l] [.own 5 u b] (fun r Hs=>∃ w,r = .raw w∧Hs = [.own 5 w (b++S8 u6 l)]):=by
 refine E4.P8 func157 rfl (by kernel_rfl) 25 rfl rfl _ rfl _ rfl fun C hC hG => ?_
 refine .q 12 hG ?_
 refine .D8 (α:=Nat×Value) [(9,_),(10,_)] (fun x R=>(0,.raw x.2)::(11,.v (x.1:Int))::R) (fun x => [(false,.own 5 x.2 (b++S8 u6 (l.take x.1)))]) (fun x=>x.1≤l.length) (fun x=>l.length - x.1) ((0,u)) (.c2 a8 a8 (.nil _)) ?_ (.c2 a8 a8 (.c2 a8 a8 (.nil _))) (congrArg (fun q => [(false,D6.own _ _ q)]) (by simp [S8])) fun x hF => ?_
 ·simp
 obtain⟨k,w⟩:=x
 dsimp only at hF ⊢
 have hcl:=a2m u6 l 24 k (fun p hp=>H5 (O1 (h p hp)))
 refine .q 6 hG ⟨fun hc12 => ?_,fun hc12 => ?_⟩
 ·refine .q 5 hG ?_
  refine .ix (by omega) (by omega) ?_
  refine .q 2 hG fun b6 => ?_
  refine .q 3 hG ?_
  refine .y6 hC .z (.L6 6 a8 .z (.drop ?_))
  refine .q 2 hG ?_
  refine .k hG (a6V _) ?_
  refine .q 6 hG ?_
  have hpo:=h l[k] (List.getElem_mem _)
  have hpl:=a11 l[k]
  refine .q 3 hG ?_
  refine .h (.b5r P3 (.inl ⟨_,underlying86⟩) a8 .z (.v (.t a8)) (by simp<;>omega) (by simp<;>omega) fun w22 => ?_)
  refine .q 3 hG ?_
  refine .ad (by omega) (by omega) ?_
  refine .q 2 hG ?_
  refine⟨(k+1,_),.c2 rfl rfl (.c2 rfl rfl (.nil _)),congrArg (fun q => [(false,D6.own _ _ q)]) (by show b++S8 u6 (l.take k)++(U8 l[k]).1=b++S8 u6 (l.take (k+1));rw [a1A u6 l k (by omega),y0 hpo];simp),?_,by dsimp only;omega⟩
  omega
 ·refine .q 7 hG ?_
  refine .e1 a8 a8 ?_
  refine⟨_,.cons .z (.nil),?_⟩
  exact⟨_,rfl,by rw [List.take_of_length_le (by omega)]⟩
theorem b6F (u:Value) (b:List UInt8) (l:List Cav) (hb:b.length≤600000) (hl:l.length≤64) (h:∀ c∈l,I5 c=true):E4 gl prog 155 [.raw u,.v l] [.own 5 u b] (fun r Hs=>∃ w,r = .raw w∧Hs = [.own 5 w (b++S8 E8 l)]):=by
 refine E4.P8 func155 rfl (by kernel_rfl) 25 rfl rfl _ rfl _ rfl fun C hC hG => ?_
 refine .q 12 hG ?_
 refine .D8 (α:=Nat×Value) [(9,_),(10,_)] (fun x R=>(0,.raw x.2)::(11,.v (x.1:Int))::R) (fun x => [(false,.own 5 x.2 (b++S8 E8 (l.take x.1)))]) (fun x=>x.1≤l.length) (fun x=>l.length - x.1) ((0,u)) (.c2 a8 a8 (.nil _)) ?_ (.c2 a8 a8 (.c2 a8 a8 (.nil _))) (congrArg (fun q => [(false,D6.own _ _ q)]) (by simp [S8])) fun x hF => ?_
 ·simp
 obtain⟨k,w⟩:=x
 dsimp only at hF ⊢
 have hcl:=a2m E8 l 2100 k (fun p hp=>a2e (h p hp))
 refine .q 6 hG ⟨fun hc12 => ?_,fun hc12 => ?_⟩
 ·refine .q 5 hG ?_
  refine .ix (by omega) (by omega) ?_
  refine .q 2 hG fun b6 => ?_
  refine .q 3 hG ?_
  refine .y6 hC .z (.L6 6 a8 .z (.drop ?_))
  refine .q 2 hG ?_
  refine .k hG (b2j _) ?_
  refine .q 6 hG ?_
  have hco:=h l[k] (List.getElem_mem _)
  have hcl2:=a33 l[k]
  refine .q 3 hG ?_
  refine .h (.b5r P3 (.inl ⟨_,underlying86⟩) a8 .z (.v (.t a8)) (by simp<;>omega) (by simp<;>omega) fun w22 => ?_)
  refine .q 3 hG ?_
  refine .ad (by omega) (by omega) ?_
  refine .q 2 hG ?_
  refine⟨(k+1,_),.c2 rfl rfl (.c2 rfl rfl (.nil _)),congrArg (fun q => [(false,D6.own _ _ q)]) (by show b++S8 E8 (l.take k)++(W4 l[k]).1=b++S8 E8 (l.take (k+1));rw [a1A E8 l k (by omega),a1E hco];simp),?_,by dsimp only;omega⟩
  omega
 ·refine .q 7 hG ?_
  refine .e1 a8 a8 ?_
  refine⟨_,.cons .z (.nil),?_⟩
  exact⟨_,rfl,by rw [List.take_of_length_le (by omega)]⟩
def a27 (b:P9):List UInt8:=numsL [1,b.Request.Gate,b.Request.E0,b.D3,b.A6,b.j8.length]++S8 E8 b.j8++b.Proof.l
structure c2z (b:P9):Prop where
 nums:∀ n ∈ [1,b.Request.Gate,b.Request.E0,b.D3,b.A6,(b.j8.length:Int)],0≤n∧n≤281474976710656
 l0:(numsL [1,b.Request.Gate,b.Request.E0,b.D3,b.A6,b.j8.length]).length≤42
 l1:(S8 E8 b.j8).length≤134400
 l2:(a27 b).length≤134474
theorem b8P {b:P9} (h:a9E b):c2z b:=by
 have h1:=h.rq
 have h2:=h.num
 have h3:=h.a4I
 have hn:∀ n ∈ [1,b.Request.Gate,b.Request.E0,b.D3,b.A6,(b.j8.length:Int)],0≤n∧n≤281474976710656:=by simp;omega
 have l0:=a1z _ hn
 have l1:=a10 E8 b.j8 2100 fun c hc=>a2e (h.cav c hc)
 have l1':(S8 E8 b.j8).length≤134400:=by omega
 exact⟨hn,l0,l1',by unfold a27;rw [List.length_append,List.length_append,I8.len];simp only [List.length_cons,List.length_nil] at l0;omega⟩
structure c3P (d:Bnd):Prop where
 a7J:d.l8.length≤8
 tick:1≤d.l9.length∧d.l9.length≤1024
 con:∀ p∈d.l8,y5 p=true
 len:(K3 d).length≤1400
 lf:(a0K d.l9).length≤1031
 ln:(J6 d.l8.length).length≤7
 lt:(J6 d.l9.length).length≤7
theorem b5x {b:P9} (h:a9E b) {d:Bnd} (hd:d∈b.j4):c3P d :=
 ⟨h.a7J d hd,h.tick d hd,h.con d hd,b0H (h.a7J d hd) (h.tick d hd).2 (h.con d hd),a1B (h.tick d hd).2,B1 (by have:=h.a7J d hd;omega),B1 (by have:=h.tick d hd;omega)⟩
theorem b6G (b:P9) (h:a9E b):p4 gl prog 88 [.v b] (fun r=>r = .v (a1e b)):=by
 have hh:=b8P h
 have hnd:=h.c3K
 refine p4.jn func88 (by kernel_rfl) 63 rfl fun C hC hG => ?_
 refine .q 3 hG fun b1 => ?_
 refine .q 3 hG ?_
 refine .y6 hC .z (.L6 1 a8 .z ?_)
 refine .q 14 hG ?_
 refine .bs a8 (by decide) fun b19=>(.u0 hC .z (.as 19 a8 .z (.h (.a6a hG (a63 _ _ (by decide) (by simp) (by simp) hh.nums) (.cons .b3q (.cons (.t a8) .nil)) fun r20 Hs20 hr20 => ?_))))
 obtain⟨u20,rfl,rfl⟩:=hr20
 show D0 _ _ _ _ _ _ _ ((true,_)::_)
 refine .q 3 hG ?_
 have hq0:=hh.l0
 have hq1:=hh.l1
 refine .D7 [j0,j1,j1] (by kernel_rfl) 8 [[],[],[(22,1)],[(21,0),(23,2)],[],[(25,4)],[(24,3),(26,5)],[(27,6)]] [3,6,7] a8 (by kernel_rfl) a8 (by kernel_rfl) (by decide) ?_
 refine⟨_,fun H=>j6.move (.t a8) a8,?_⟩
 refine⟨_,fun H=>j6.A7 u1.l3 (fun x=>x.j8) W0 a8 (fun _=>a8) (.t a8) a8,?_⟩
 refine⟨_,fun H=>j6.G6 a86 (.t a8) a8,?_⟩
 refine .inl ?_
 refine⟨_,fun H=>j6.A7 u1.l4 (fun x=>x.Proof) a8c a8 (fun _=>a8) (.t a8) a8,?_⟩
 refine⟨_,fun H=>j6.O6 (by decide) M6 (.t a8) a8,?_⟩
 refine .inl (.inl ?_)
 refine⟨⟨([],j2 [_,c8,c8]),a8⟩,?_⟩
 refine A0.a1m hG (b6F _ _ _ (by simp;have:=hh.l0;simp at *;omega) h.a4I h.cav) .z (.cons (.t rfl) (.cons (.t rfl) .nil)) (by rintro _ _ ⟨_,_,rfl⟩;exact⟨_,rfl⟩) fun r24 B24 hr24 => ?_
 obtain⟨u24,rfl,hB⟩:=hr24
 cases hB
 refine⟨⟨([],j2 [_,c8,c8]),a8⟩,?_⟩
 refine A0.append P3 (.inl ⟨_,underlying86⟩) rfl .z (.v (.t rfl)) (by simp<;>omega) (by simp<;>omega) (fun w27 => ?_) rfl
 refine⟨⟨([],j2 [_,c8,c8]),a8⟩,?_⟩
 refine A0.ofP (j6.assign (.t rfl) ?_)
 refine⟨⟨([],j2 [_,c8,c8]),a8⟩,?_⟩
 show D0 _ _ _ _ _ [] ((3,_)::(27,_)::(26,_)::(25,_)::(24,_)::(23,_)::(22,_)::(21,_)::_) _
 refine .q 2 hG ?_
 refine .u0 hC .z (.as 3 a8 .z ?_)
 refine .q 5 hG ?_
 refine .bs a8 (by decide) fun b32=>(.u0 hC .z (.as 32 a8 .z ?_))
 refine .k0 hG (a63 _ _ (by simp<;>omega) (by simp) (by simp) (by simp;omega)) fun r33 Hs33 hr33 => ?_
 obtain⟨u33,rfl,rfl⟩:=hr33
 show D0 _ _ _ _ _ _ _ ((true,_)::_)
 refine .q 4 hG ?_
 refine .del (.s .z) (.del (.s .z) (.del (.s .z) (.del (.s .z) ?_)))
 refine .q 7 hG ?_
 refine .D8 (α:=Nat×Value) [(35,_),(36,_)] (fun x R=>(3,.raw x.2)::(37,.v (x.1:Int))::R) (fun x => [(true,.own 5 x.2 (a27 b++J6 b.j4.length++S8 K3 (b.j4.take x.1)))]) (fun x=>x.1≤b.j4.length) (fun x=>b.j4.length - x.1) ((0,u33)) (.c2 a8 a8 (.nil _)) ?_ (.c2 a8 a8 (.c2 a8 a8 (.nil _))) (congrArg (fun q => [(true,D6.own _ _ q)]) (by simp [a27,numsL,S8])) fun x hF => ?_
 ·simp
 obtain⟨k,w⟩:=x
 dsimp only at hF ⊢
 have hcl:=a2m K3 b.j4 1400 k (fun d hd=>(b5x h hd).len)
 refine .q 6 hG ⟨fun hc38 => ?_,fun hc38 => ?_⟩
 ·refine .q 5 hG ?_
  refine .ix (by omega) (by omega) ?_
  refine .q 2 hG fun b5 => ?_
  refine .q 3 hG ?_
  have hdd:=b5x h (List.getElem_mem (show k < b.j4.length by omega))
  have hh2:=hh.l2
  have q1:=hdd.a7J
  have q2:=hdd.tick
  have q3:=hdd.lt
  have q4:=hdd.ln
  have q6:(numsL [(b.j4[k].l8.length:Int)]).length≤7:=a1z [_] (by simp;omega)
  have q5:=a10 u6 b.j4[k].l8 24 (fun p hp=>H5 (O1 (hdd.con p hp)))
  have hnl:=B1 (n:=b.j4.length) (by omega)
  refine .y6 hC .z (.L6 5 a8 .z (.u0 hC .z1 (.as 3 a8 .z1 (.del .z (.del .z ?_)))))
  refine .q 4 hG ?_
  refine .k0 hG (a9z _ _ (by simp<;>omega) hdd.tick.2) fun r45 Hs45 hr45 => ?_
  obtain⟨u45,rfl,rfl⟩:=hr45
  show D0 _ _ _ _ _ _ _ ((true,_)::_)
  refine .q 6 hG ?_
  refine .u0 hC .z (.as 3 a8 .z (.del .z (.a7h (by kernel_rfl) 10 [[],[],[(49,1)],[(50,2)],[(51,3)],[(48,0),(52,4)],[],[(54,6)],[(53,5),(55,7)],[(56,8)]] [4,5,8,9] a8 (by kernel_rfl) a8 (by kernel_rfl) (by decide) ?_)))
  refine⟨_,fun H=>j6.move (.t a8) a8,?_⟩
  refine⟨_,fun H=>j6.A7 p9.l1 (fun x=>x.l8) a4s a8 (fun _=>a8) (.t a8) a8,?_⟩
  refine⟨_,fun H=>j6.G6 a7I (.t a8) a8,?_⟩
  refine⟨_,fun H=>j6.len underlying83 (.t a8) a8,?_⟩
  refine .inl (.inl ?_)
  refine⟨_,fun H=>j6.A7 p9.l1 (fun x=>x.l8) a4s a8 (fun _=>a8) (.t a8) a8,?_⟩
  refine⟨_,fun H=>j6.G6 a7I (.t a8) a8,?_⟩
  refine .inl (.inl ?_)
  refine A0.buildSlice (α:=Int) P5 underlying33 (.cons (.t rfl) .nil) rfl (by decide) fun b52 => ?_
  refine A0.u0 hC .z (A0.as 52 rfl .z (A0.a6a hG (a63 _ _ (by simp<;>omega) (by simp) (by simp) (by simp;omega)) (.cons (.t rfl) (.cons (.t rfl) .nil)) fun r53 Hs53 hr53 => ?_))
  obtain⟨u53,rfl,rfl⟩:=hr53
  refine A0.a1m hG (b4m _ _ _ (by simp<;>omega) hdd.a7J hdd.con) .z (.cons (.t rfl) (.cons (.t rfl) .nil)) (by rintro _ _ ⟨_,_,rfl⟩;exact⟨_,rfl⟩) fun r56 B56 hr56 => ?_
  obtain⟨u56,rfl,hB⟩:=hr56
  cases hB
  refine A0.ofP (j6.assign (.t rfl) ?_)
  show D0 _ _ _ _ _ [] ((3,_)::(56,_)::(55,_)::(54,_)::(53,_)::(52,_)::(51,_)::(50,_)::(49,_)::(48,_)::_) _
  refine .q 1 hG ?_
  refine .del (.s .z) ?_
  refine .q 3 hG ?_
  refine .p (.O6 (by decide) M6 (.t a8) ?_)
  refine .ap (by simp<;>omega) (by simp<;>omega) fun w60 => ?_
  refine .q 3 hG ?_
  refine .ad (by omega) (by omega) ?_
  refine .q 2 hG ?_
  refine⟨(k+1,_),.c2 rfl rfl (.c2 rfl rfl (.nil _)),congrArg (fun q => [(true,D6.own _ _ q)]) (by show _=a27 b++J6 b.j4.length++S8 K3 (b.j4.take (k+1));rw [a1A K3 b.j4 k (by omega)];simp [K3,a0K,numsL]),?_,by dsimp only;omega⟩
  omega
 ·refine .q 2 hG ?_
  refine .u0 hC .z (.as 3 a8 .z ?_)
  refine .q 5 hG ?_
  refine .e1 a8 a8 ?_
  refine congrArg AV.v ?_
  rw [List.take_of_length_le (by omega)];unfold a1e a27;simp
theorem a0j {b:P9} (h:F5 b≠0):K7 b=F5 b:=by unfold K7;rw [if_pos h]
theorem a7y {b:P9} (h:F5 b=0) (h2:4096 < (a1e b).length):K7 b=2:=by unfold K7;rw [if_neg (by simpa using h),if_pos h2]
theorem a7z {b:P9} (h:F5 b=0) (h2:¬4096 < (a1e b).length):K7 b=0:=by unfold K7;rw [if_neg (by simpa using h),if_neg h2]
theorem b5y (b:P9) (hl:b.j8.length≤1000000):p4 gl prog 35 [.v b] (fun r=>r = .v (K7 b)):=by
 refine p4.jn func35 (by kernel_rfl) 13 rfl fun C hC hG => ?_
 refine .q 3 hG fun b1 => ?_
 refine .q 4 hG ?_
 refine .y6 hC .z (.L6 1 a8 .z ?_)
 refine .q 2 hG ?_
 refine .k hG (c0J _ hl) ?_
 refine .q 8 hG ⟨fun hc7 => ?_,fun hc7 => ?_⟩
 ·refine .q 6 hG ?_
  refine .e1 a8 a8 ?_
  rw [a0j hc7]
 ·refine .q 3 hG ?_
  have h0:F5 b=0:=Decidable.not_not.1 hc7
  refine .q 2 hG ?_
  refine .k hG (b6G _ (a4J h0)) ?_
  refine .q 4 hG ⟨fun hc12 => ?_,fun hc12 => ?_⟩
  ·refine .q 5 hG ?_
   refine .e1 a8 a8 ?_
   rw [a7y h0 (by omega)]
  ·refine .q 6 hG ?_
   refine .e1 a8 a8 ?_
   rw [a7z h0 (by omega)]
theorem b8Q (l:List Int) : [1]++numsL l=numsL (1::l):=by
 show [1]++numsL l=(J6 1::l.map fun n=>J6 n.toNat).flatten
 rw [List.flatten_cons,a2d (by decide)];rfl
theorem b8R (b:P9) (h:a9E b):p4 gl prog 108 [.v b] (fun r=>r = .v (a1e b)):=by
 have hh:=b8P h
 have hnd:=h.c3K
 have hnc:=h.a4I
 have hq0:=hh.l0
 have hq1:=hh.l1
 have hh2:=hh.l2
 have hnl:=B1 (n:=b.j4.length) (by omega)
 have hb5:∀ n ∈ [b.Request.Gate,b.Request.E0,b.D3,b.A6,(b.j8.length:Int)],0≤n∧n≤281474976710656:=fun n hn=>hh.nums n (List.mem_cons_of_mem _ hn)
 have hl5 : [b.Request.Gate,b.Request.E0,b.D3,b.A6,(b.j8.length:Int)].length=5:=rfl
 refine p4.jn func108 (by kernel_rfl) 116 rfl fun C hC hG => ?_
 refine .q 3 hG fun b1 => ?_
 refine .q 3 hG ?_
 refine .y6 hC .z (.L6 1 a8 .z ?_)
 refine .q 1 hG ?_
 refine .bs a8 (by decide) fun b14 => ?_
 refine .q 17 hG ?_
 refine .bs a8 (by decide) fun b28 => ?_
 refine .q 4 hG ?_
 refine .u0 hC .z (.as 4 a8 .z (.del .z (.del (.s .z) ?_)))
 refine .q 4 hG ?_
 refine .D8 (α:=Nat×Value) [(1,_),(4,_)] (fun x R=>(3,.raw x.2)::(5,.v (x.1:Int))::R) (fun x => [(true,.own 5 x.2 ([1]++numsL ([b.Request.Gate,b.Request.E0,b.D3,b.A6,(b.j8.length:Int)].take x.1)))]) (fun x=>x.1≤5) (fun x=>5 - x.1) ((0,slc b14 0 1 1)) (.c2 a8 a8 (.nil _)) ?_ (.c2 a8 a8 (.c2 a8 a8 (.nil _))) (congrArg (fun q => [(true,D6.own _ _ q)]) (by simp [numsL])) fun x hF => ?_
 ·simp
 obtain⟨k,w⟩:=x
 dsimp only at hF ⊢
 have hcl:=a1z ([b.Request.Gate,b.Request.E0,b.D3,b.A6,(b.j8.length:Int)].take k) (fun n hn=>hb5 n (List.mem_of_mem_take hn))
 have hcl2:([b.Request.Gate,b.Request.E0,b.D3,b.A6,(b.j8.length:Int)].take k).length≤5:=(by simp;omega)
 refine .q 9 hG ⟨fun hc32 => ?_,fun hc32 => ?_⟩
 ·refine .q 3 hG ?_
  have hn7:=B1 (n:=([b.Request.Gate,b.Request.E0,b.D3,b.A6,(b.j8.length:Int)][k]).toNat) (by have:=hb5 _ (List.getElem_mem (show k < [b.Request.Gate,b.Request.E0,b.D3,b.A6,(b.j8.length:Int)].length by simp;omega));omega)
  refine .q 4 hG ?_
  refine .ix (by omega) (by omega) ?_
  refine .q 1 hG ?_
  refine .k hG (F3 _ (hb5 _ (List.getElem_mem _)).1 (hb5 _ (List.getElem_mem _)).2) ?_
  refine .ap (by simp<;>omega) (by simp<;>omega) fun w41 => ?_
  refine .q 4 hG ?_
  refine .ad (by omega) (by omega) ?_
  refine .q 2 hG ?_
  refine⟨(k+1,_),.c2 rfl rfl (.c2 rfl rfl (.nil _)),congrArg (fun q => [(true,D6.own _ _ q)]) (by show _ = [1]++numsL ([b.Request.Gate,b.Request.E0,b.D3,b.A6,(b.j8.length:Int)].take (k+1));rw [a5K [b.Request.Gate,b.Request.E0,b.D3,b.A6,(b.j8.length:Int)] k (by simp;omega),←List.append_assoc];rfl),?_,by dsimp only;omega⟩
  dsimp only;omega
 ·refine .q 3 hG ?_
  obtain rfl:k=5:=by simp only [List.length_cons,List.length_nil] at hc32;omega
  refine .q 4 hG ?_
  refine .D8 (α:=Nat×Value) [(1,_)] (fun x R=>(3,.raw x.2)::(6,.v (x.1:Int))::R) (fun x => [(true,.own 5 x.2 (numsL (1 :: [b.Request.Gate,b.Request.E0,b.D3,b.A6,(b.j8.length:Int)])++S8 E8 (b.j8.take x.1)))]) (fun x=>x.1≤b.j8.length) (fun x=>b.j8.length - x.1) ((0,w)) (.cons rfl (.nil _)) ?_ (.c2 rfl rfl (.cons rfl (.nil _))) (congrArg (fun q => [(true,D6.own _ _ q)]) (by show [1]++numsL ([b.Request.Gate,b.Request.E0,b.D3,b.A6,(b.j8.length:Int)].take 5)=numsL (1 :: [b.Request.Gate,b.Request.E0,b.D3,b.A6,(b.j8.length:Int)])++S8 E8 (b.j8.take 0);rw [b8Q];simp [S8])) fun x hF => ?_
  ·simp
  obtain⟨k1,w1⟩:=x
  dsimp only at hF ⊢
  have hcl:=a2m E8 b.j8 2100 k1 (fun c hc=>a2e (h.cav c hc))
  refine .q 10 hG ⟨fun hc46 => ?_,fun hc46 => ?_⟩
  ·refine .q 4 hG ?_
   have hpl2:=a33 b.j8[k1]
   have hco:=h.cav _ (List.getElem_mem (show k1 < b.j8.length by omega))
   refine .q 4 hG ?_
   refine .ix (by omega) (by omega) ?_
   refine .q 1 hG ?_
   refine .k hG (a9H _) ?_
   refine .q 9 hG ?_
   refine .ap (by simp<;>omega) (by simp<;>omega) fun w60 => ?_
   refine .q 4 hG ?_
   refine .ad (by omega) (by omega) ?_
   refine .q 2 hG ?_
   refine⟨(k1+1,_),.c2 rfl rfl (.cons rfl (.nil _)),congrArg (fun q => [(true,D6.own _ _ q)]) (by show _++(W4 b.j8[k1]).1=numsL (1 :: [b.Request.Gate,b.Request.E0,b.D3,b.A6,(b.j8.length:Int)])++S8 E8 (b.j8.take (k1+1));rw [a1A E8 b.j8 k1 (by omega),a1E hco];simp),?_,by dsimp only;omega⟩
   omega
  ·refine .q 2 hG ?_
   obtain rfl:k1=b.j8.length:=by omega
   refine .D7 [j0] (by kernel_rfl) 10 [[],[],[(62,1)],[(61,0),(63,2)],[],[(65,4)],[(66,5)],[(67,6)],[(64,3),(68,7)],[(69,8)]] [0,3,8,9] a8 (by kernel_rfl) a8 (by kernel_rfl) (by decide) (.inl ?_)
   refine⟨_,fun H=>j6.A7 u1.l4 (fun x=>x.Proof) a8c a8 (fun _=>a8) (.t a8) a8,?_⟩
   refine⟨_,fun H=>j6.O6 (by decide) M6 (.t a8) a8,?_⟩
   refine .inl ?_
   refine⟨_,fun H=>j6.A7 u1.l5 (fun x=>x.j4) Z0 a8 (fun _=>a8) (.t a8) a8,?_⟩
   refine⟨_,fun H=>j6.G6 c0i (.t a8) a8,?_⟩
   refine⟨_,fun H=>j6.len underlying27 (.t a8) a8,?_⟩
   refine⟨_,fun H=>j6.o8 hG (F3 _ (by omega) (by omega)) (.cons (.t a8) .nil) a8,?_⟩
   refine .inl (.inl ?_)
   refine⟨⟨([],j2 [_]),a8⟩,?_⟩
   refine A0.ofP (j6.move (.t rfl) ?_)
   refine⟨⟨([],j2 [_]),a8⟩,?_⟩
   refine A0.append P3 (.inl ⟨_,underlying86⟩) rfl .z (.v (.t rfl)) (by simp<;>omega) (by simp<;>omega) (fun w64 => ?_) rfl
   refine⟨⟨([],j2 [_]),a8⟩,?_⟩
   refine A0.append P3 (.inl ⟨_,underlying86⟩) rfl .z (.v (.t rfl)) (by simp<;>omega) (by simp<;>omega) (fun w69 => ?_) rfl
   refine⟨⟨([],j2 [_]),a8⟩,?_⟩
   refine A0.ofP (j6.assign (.t rfl) ?_)
   refine⟨⟨([],j2 [_]),a8⟩,?_⟩
   show D0 _ _ _ _ _ [] ((3,_)::(69,_)::(68,_)::(67,_)::(66,_)::(65,_)::(64,_)::(63,_)::(62,_)::(61,_)::_) _
   refine .q 7 hG ?_
   refine .D8 (α:=Nat×Value) [(1,_)] (fun x R=>(3,.raw x.2)::(9,.v (x.1:Int))::R) (fun x => [(true,.own 5 x.2 (a27 b++J6 b.j4.length++S8 K3 (b.j4.take x.1)))]) (fun x=>x.1≤b.j4.length) (fun x=>b.j4.length - x.1) ((0,_)) (.cons rfl (.nil _)) ?_ (.c2 rfl rfl (.cons rfl (.nil _))) (congrArg (fun q => [(true,D6.own _ _ q)]) (by show _=a27 b++J6 b.j4.length++S8 K3 (b.j4.take 0);unfold a27;simp [S8])) fun x hF => ?_
   ·simp
   obtain⟨k2,w2⟩:=x
   dsimp only at hF ⊢
   have hcl:=a2m K3 b.j4 1400 k2 (fun d hd=>(b5x h hd).len)
   refine .q 10 hG ⟨fun hc74 => ?_,fun hc74 => ?_⟩
   ·refine .q 8 hG ?_
    refine .ix (by omega) (by omega) ?_
    refine .q 2 hG fun b10 => ?_
    refine .q 3 hG ?_
    have hdd:=b5x h (List.getElem_mem (show k2 < b.j4.length by omega))
    have q1:=hdd.a7J
    have q2:=hdd.tick
    have q3:=hdd.lt
    have q4:=hdd.ln
    refine .y6 hC .z (.L6 10 a8 .z (.del .z (.D7 [j0] (by kernel_rfl) 11 [[],[],[(83,1)],[(84,2)],[(82,0),(85,3)],[],[(87,5)],[(88,6)],[(89,7)],[(86,4),(90,8)],[(91,9)]] [0,4,9,10] a8 (by kernel_rfl) a8 (by kernel_rfl) (by decide) (.inl ?_))))
    refine⟨_,fun H=>j6.A7 p9.l0 (fun x=>x.l9) a8d a8 (fun _=>a8) (.t a8) a8,?_⟩
    refine⟨_,fun H=>j6.G6 a3y (.t a8) a8,?_⟩
    refine⟨_,fun H=>j6.o8 hG (a08 _ (by simp<;>omega)) (.cons (.t a8) .nil) a8,?_⟩
    refine .inl ?_
    refine⟨_,fun H=>j6.A7 p9.l1 (fun x=>x.l8) a4s a8 (fun _=>a8) (.t a8) a8,?_⟩
    refine⟨_,fun H=>j6.G6 a7I (.t a8) a8,?_⟩
    refine⟨_,fun H=>j6.len underlying83 (.t a8) a8,?_⟩
    refine⟨_,fun H=>j6.o8 hG (F3 _ (by omega) (by simp<;>omega)) (.cons (.t a8) .nil) a8,?_⟩
    refine .inl (.inl ?_)
    refine⟨⟨([],j2 [_]),a8⟩,?_⟩
    refine A0.ofP (j6.move (.t rfl) ?_)
    refine⟨⟨([],j2 [_]),a8⟩,?_⟩
    refine A0.append P3 (.inl ⟨_,underlying86⟩) rfl .z (.v (.t rfl)) (by simp<;>omega) (by simp<;>omega) (fun w86 => ?_) rfl
    refine⟨⟨([],j2 [_]),a8⟩,?_⟩
    refine A0.append P3 (.inl ⟨_,underlying86⟩) rfl .z (.v (.t rfl)) (by simp<;>omega) (by simp<;>omega) (fun w91 => ?_) rfl
    refine⟨⟨([],j2 [_]),a8⟩,?_⟩
    refine A0.ofP (j6.assign (.t rfl) ?_)
    refine⟨⟨([],j2 [_]),a8⟩,?_⟩
    show D0 _ _ _ _ _ [] ((3,_)::(91,_)::(90,_)::(89,_)::(88,_)::(87,_)::(86,_)::(85,_)::(84,_)::(83,_)::(82,_)::_) _
    refine .q 7 hG ?_
    refine .D8 (α:=Nat×Value) [(1,_),(9,_),(10,_)] (fun x R=>(3,.raw x.2)::(11,.v (x.1:Int))::R) (fun x => [(true,.own 5 x.2 (a27 b++J6 b.j4.length++S8 K3 (b.j4.take k2)++(J6 b.j4[k2].l9.length++b.j4[k2].l9)++J6 b.j4[k2].l8.length++S8 u6 (b.j4[k2].l8.take x.1)))]) (fun x=>x.1≤b.j4[k2].l8.length) (fun x=>b.j4[k2].l8.length - x.1) ((0,_)) (.c2 rfl rfl (.cons rfl (.nil _))) ?_ (.c2 rfl rfl (.c2 rfl rfl (.cons rfl (.nil _)))) (congrArg (fun q => [(true,D6.own _ _ q)]) (by show _=a27 b++J6 b.j4.length++S8 K3 (b.j4.take k2)++(J6 b.j4[k2].l9.length++b.j4[k2].l9)++J6 b.j4[k2].l8.length++S8 u6 (b.j4[k2].l8.take 0);simp [S8])) fun x hF => ?_
    ·simp
    obtain⟨k3,w3⟩:=x
    dsimp only at hF ⊢
    have hcl3:=a2m u6 b.j4[k2].l8 24 k3 (fun p hp=>H5 (O1 (hdd.con p hp)))
    refine .q 10 hG ⟨fun hc96 => ?_,fun hc96 => ?_⟩
    ·refine .q 4 hG ?_
     have hx3:(k3:Int) < (b.j4[k2].l8.length:Int):=hc96
     have hpo:=hdd.con _ (List.getElem_mem (show k3 < b.j4[k2].l8.length by omega))
     have hpl3:=a11 b.j4[k2].l8[k3]
     refine .q 4 hG ?_
     refine .ix (by omega) (by omega) ?_
     refine .q 1 hG ?_
     refine .k hG (a5L _) ?_
     refine .q 9 hG ?_
     refine .ap (by simp<;>omega) (by simp<;>omega) fun w110 => ?_
     refine .q 4 hG ?_
     refine .ad (by omega) (by omega) ?_
     refine .q 2 hG ?_
     refine⟨(k3+1,_),.c2 rfl rfl (.c2 rfl rfl (.cons rfl (.nil _))),congrArg (fun q => [(true,D6.own _ _ q)]) (by show _++(U8 b.j4[k2].l8[k3]).1=a27 b++J6 b.j4.length++S8 K3 (b.j4.take k2)++(J6 b.j4[k2].l9.length++b.j4[k2].l9)++J6 b.j4[k2].l8.length++S8 u6 (b.j4[k2].l8.take (k3+1));rw [a1A u6 b.j4[k2].l8 k3 (by omega),y0 hpo];simp),?_,by dsimp only;omega⟩
     omega
    ·refine .q 1 hG ?_
     have hx3:¬((k3:Int) < (b.j4[k2].l8.length:Int)):=hc96
     rw [List.take_of_length_le (show b.j4[k2].l8.length≤k3 by omega)]
     have q5:=a10 u6 b.j4[k2].l8 24 (fun p hp=>H5 (O1 (hdd.con p hp)))
     refine .q 3 hG ?_
     refine .p (.O6 (by decide) M6 (.t a8) ?_)
     refine .ap (by simp<;>omega) (by simp<;>omega) fun w114 => ?_
     refine .q 4 hG ?_
     refine .ad (by omega) (by omega) ?_
     refine .q 2 hG ?_
     refine⟨(k2+1,_),.c2 rfl rfl (.cons rfl (.nil _)),congrArg (fun q => [(true,D6.own _ _ q)]) (by show _=a27 b++J6 b.j4.length++S8 K3 (b.j4.take (k2+1));rw [a1A K3 b.j4 k2 (by omega)];simp [K3,a0K]),?_,by dsimp only;omega⟩
     omega
   ·refine .q 2 hG ?_
    refine .u0 hC .z (.as 3 a8 .z ?_)
    refine .q 5 hG ?_
    refine .e1 a8 a8 ?_
    refine congrArg AV.v ?_
    rw [List.take_of_length_le (by omega)];unfold a1e a27;simp
theorem any_succ {α:Type} (p:α→Bool) (l:List α) (k:Nat) (h:k < l.length):(l.take (k+1)).any p=((l.take k).any p||p l[k]):=by
 rw [List.take_succ_eq_append_getElem h,List.any_append];simp
def a0r (b:P9) (i:Nat):Bool:=(!b.j8.all I5)||(b.j4.take i).any a3k
def W7 (b:P9) (i:Nat):Bool:=(b.j4.take i).any a3D
def a35 (p:Pred):Bool := !y5 p
def a3G (p:Pred):Bool:=decide (p.Kind=7)
theorem b2z (b:P9) (i:Nat) (h:i < b.j4.length):a0r b (i+1)=(a0r b i||decide ((b.j4[i].l9.length:Int) < 1)||decide ((1024:Int) < (b.j4[i].l9.length:Int))||b.j4[i].l8.any a35):=by
 unfold a0r;rw [any_succ _ _ _ h,c1B,b2w];unfold a3k a35;simp only [Bool.or_assoc]
theorem b0S (b:P9) (i:Nat) (h:i < b.j4.length):W7 b (i+1)=(W7 b i||b.j4[i].l8.any a3G):=by
 unfold W7;rw [any_succ _ _ _ h];rfl
theorem c0K {b:P9} (h1:(decide ((64:Int) < (b.j8.length:Int))||decide (8 < a1a b.j8)||decide ((8:Int) < (b.j4.length:Int)))=false) (h2:b.j4.any a1K=false):S3 b=false:=by
 rw [b8K,c0G] at h1;unfold S3;rw [h1,h2];rfl
theorem c2A {b:P9} (h1:(decide ((64:Int) < (b.j8.length:Int))||decide (8 < a1a b.j8)||decide ((8:Int) < (b.j4.length:Int)))=true):S3 b=true:=by
 rw [b8K,c0G] at h1;unfold S3;rw [h1];rfl
theorem c2B {b:P9} {i:Nat} (h:i < b.j4.length) (h2:(8:Int) < (b.j4[i].l8.length:Int)):S3 b=true:=by
 have:b.j4.any a1K=true:=List.any_eq_true.2 ⟨_,List.getElem_mem h,by unfold a1K;rw [decide_eq_true_eq];omega⟩
 unfold S3;rw [this,Bool.or_true]
theorem a6r (b:P9):a0r b b.j4.length=((b.j8.any fun c => !I5 c)||b.j4.any a3k):=by
 unfold a0r;rw [List.take_length];congr 1
 induction b.j8 with
 | nil=>rfl
 | cons c l ih=>rw [List.all_cons,List.any_cons,Bool.not_and,ih]
theorem c0L {b:P9} (h:P0 b=false):K7 b=1:=by
 have:F5 b=1:=by unfold F5;rw [if_pos h]
 rw [a0j (by rw [this];decide),this]
theorem b5z {b:P9} (h:P0 b=true) (h2:S3 b=true):K7 b=2:=by
 have:F5 b=2:=by unfold F5;rw [if_neg (by rw [h];decide),if_pos h2]
 rw [a0j (by rw [this];decide),this]
theorem c0M {b:P9} (h:P0 b=true) (h2:S3 b=false) (h3:a0r b b.j4.length=true):K7 b=5:=by
 rw [a6r] at h3
 have:F5 b=5:=by unfold F5;rw [if_neg (by rw [h];decide),if_neg (by rw [h2];decide),if_pos h3]
 rw [a0j (by rw [this];decide),this]
theorem c0N {b:P9} (h:P0 b=true) (h2:S3 b=false) (h3:a0r b b.j4.length=false) (h4:W7 b b.j4.length=true):K7 b=6:=by
 rw [a6r] at h3;unfold W7 at h4;rw [List.take_length] at h4
 have:F5 b=6:=by unfold F5;rw [if_neg (by rw [h];decide),if_neg (by rw [h2];decide),if_neg (by rw [h3];decide),if_pos h4]
 rw [a0j (by rw [this];decide),this]
theorem b8S {b:P9} (h:P0 b=true) (h2:S3 b=false) (h3:a0r b b.j4.length=false) (h4:W7 b b.j4.length=false) (h5:V0 b.j4 b.j4.length=true):K7 b=10:=by
 rw [a6r] at h3;unfold W7 at h4;rw [List.take_length] at h4
 have:F5 b=10:=by unfold F5;rw [if_neg (by rw [h];decide),if_neg (by rw [h2];decide),if_neg (by rw [h3];decide),if_neg (by rw [h4];decide),if_pos (show a3l b.j4=true from h5)]
 rw [a0j (by rw [this];decide),this]
theorem c0O {b:P9} (h:P0 b=true) (h2:S3 b=false) (h3:a0r b b.j4.length=false) (h4:W7 b b.j4.length=false) (h5:V0 b.j4 b.j4.length=false):F5 b=0:=by
 rw [a6r] at h3;unfold W7 at h4;rw [List.take_length] at h4
 unfold F5;rw [if_neg (by rw [h];decide),if_neg (by rw [h2];decide),if_neg (by rw [h3];decide),if_neg (by rw [h4];decide),if_neg (by unfold a3l;rw [h5];decide)]
theorem b2A (b:P9) (hl:b.j8.length≤1000000):p4 gl prog 44 [.v b] (fun r=>r = .v (K7 b)):=by
 refine p4.jn func44 (by kernel_rfl) 138 rfl fun C hC hG => ?_
 refine .q 3 hG fun b1 => ?_
 refine .q 4 hG ?_
 refine .y6 hC .z (.L6 1 a8 .z (.del .z ?_))
 refine .q 3 hG ?_
 refine .k hG (b5u _) ?_
 refine .q 22 hG ?_
 refine .cond (.t a8) (fun hc33 => ?_) (fun hc33 => ?_)
 ·refine .q 5 hG ?_
  refine .e1 a8 a8 ?_
  rw [c0L (b2y hc33)]
 ·refine .q 11 hG ?_
  refine .kg hG (a9G _ hl) ?_
  refine .q 9 hG ?_
  refine .cond (.t a8) (fun hc49 => ?_) (fun hc49 => ?_)
  ·refine .q 5 hG ?_
   refine .e1 a8 a8 ?_
   rw [b5z (a0R hc33) (c2A hc49)]
  ·refine .q 2 hG ?_
   have hD:b.j4.length≤8:=by simp only [Bool.or_eq_false_iff,decide_eq_false_iff_not] at hc49;omega
   refine .q 3 hG ?_
   refine .k hG (b2i _) ?_
   refine .q 11 hG ?_
   refine .D8 (α:=Nat) [(1,_)] (fun i R=>(3,.v (a0r b i))::(4,.v (W7 b i))::(5,.v (V0 b.j4 i))::(6,.v (i:Int))::R) (Function.const _ _) (fun i=>i≤b.j4.length∧(b.j4.take i).any a1K=false) (fun i=>b.j4.length - i) (0) (.cons a8 (.nil _)) ?_ (.cons (congrArg (fun q=>some (AV.v q)) (by unfold a0r;simp)) (.c2 a8 a8 (.c2 a8 a8 (.nil _)))) (a8) fun i hF => ?_
   ·exact⟨Nat.zero_le _,a8⟩
   obtain⟨h1,h2⟩:=hF
   refine .q 10 hG ⟨fun hc58 => ?_,fun hc58 => ?_⟩
   ·refine .q 8 hG ?_
    refine .ix (by omega) (by omega) ?_
    refine .q 2 hG fun b7 => ?_
    refine .q 4 hG ?_
    refine .y6 hC .z (.L6 7 a8 .z (.del .z ?_))
    have hi:i < b.j4.length:=by omega
    refine .q 7 hG ⟨fun hc69 => ?_,fun hc69 => ?_⟩
    ·refine .q 5 hG ?_
     refine .e1 a8 a8 ?_
     rw [b5z (a0R hc33) (c2B hi hc69)]
    ·refine .q 20 hG ?_
     have hcl:b.j4[i].l8.length≤8:=by(have hx:¬((8:Int) < (b.j4[i].l8.length:Int)):=hc69;omega)
     refine .q 4 hG ?_
     refine .D8 (α:=Nat) [(1,_),(5,_),(6,_),(7,_)] (fun y R=>(3,.v (a0r b i||decide ((b.j4[i].l9.length:Int) < 1)||decide ((1024:Int) < (b.j4[i].l9.length:Int))||(b.j4[i].l8.take y).any a35))::(4,.v (W7 b i||(b.j4[i].l8.take y).any a3G))::(8,.v (y:Int))::R) (Function.const _ _) (fun y=>y≤b.j4[i].l8.length) (fun y=>b.j4[i].l8.length - y) (0) (.c2 a8 a8 (.c2 a8 a8 (.nil _))) ?_ (.cons (congrArg (fun q=>some (AV.v q)) (Bool.or_false _).symm) (.cons (congrArg (fun q=>some (AV.v q)) (Bool.or_false _).symm) (.c2 a8 a8 (.c2 a8 a8 (.cons a8 (.nil _)))))) (a8) fun y hF => ?_
     ·simp
     refine .q 10 hG ⟨fun hc87 => ?_,fun hc87 => ?_⟩
     ·refine .q 4 hG ?_
      have hy2:y < b.j4[i].l8.length:=by(have hx:(y:Int) < (b.j4[i].l8.length:Int):=hc87;omega)
      refine .q 6 hG ?_
      refine .go 91 a8 (.t a8) (fun hg95 => .idx Q2 underlying83 (.q a8 hg95) (.q a8 hg95) (by first|omega|(simp;omega)|(have:=hg95;simp at this;omega)) (by first|omega|(simp;omega)|(have:=hg95;simp at this;omega)) a8) ?_
      refine .q 1 hG ?_
      refine .kg hG (a0f _) ?_
      refine .q 10 hG ?_
      refine .go 101 a8 (.t a8) (fun hg105 => .idx Q2 underlying83 (.q a8 hg105) (.q a8 hg105) (by first|omega|(simp;omega)|(have:=hg105;simp at this;omega)) (by first|omega|(simp;omega)|(have:=hg105;simp at this;omega)) a8) ?_
      refine .q 6 hG ?_
      have hf1:(a0r b i||decide ((b.j4[i].l9.length:Int) < 1)||decide ((1024:Int) < (b.j4[i].l9.length:Int))||(b.j4[i].l8.take y).any a35 || !y5 b.j4[i].l8[y])=(a0r b i||decide ((b.j4[i].l9.length:Int) < 1)||decide ((1024:Int) < (b.j4[i].l9.length:Int))||(b.j4[i].l8.take (y+1)).any a35):=(by rw [any_succ a35 b.j4[i].l8 y hy2,←Bool.or_assoc];rfl)
      have hf2:(W7 b i||(b.j4[i].l8.take y).any a3G||decide (b.j4[i].l8[y].Kind=7))=(W7 b i||(b.j4[i].l8.take (y+1)).any a3G):=(by rw [any_succ a3G b.j4[i].l8 y hy2,←Bool.or_assoc];rfl)
      refine .q 2 hG ?_
      refine .ad (by omega) (by omega) ?_
      refine .q 2 hG ?_
      refine⟨y+1,.cons (congrArg (fun q=>some (AV.v q)) hf1) (.cons (congrArg (fun q=>some (AV.v q)) hf2) (.c2 rfl rfl (.c2 rfl rfl (.cons rfl (.nil _))))),rfl,?_,by omega⟩
      omega
     ·refine .q 2 hG ?_
      have hy:b.j4[i].l8.length≤y:=by(have hx:¬((y:Int) < (b.j4[i].l8.length:Int)):=hc87;omega)
      refine .q 4 hG ?_
      refine .D8 (α:=Nat) [(1,_),(3,_),(4,_),(6,_),(7,_)] (fun z R=>(5,.v (V0 b.j4 i||(b.j4.take z).any fun d=>decide (d.l9=b.j4[i].l9)))::(9,.v (z:Int))::R) (Function.const _ _) (fun z=>z≤i) (fun z=>i - z) (0) (.c2 a8 a8 (.c2 a8 a8 (.cons a8 (.nil _)))) ?_ (.cons (congrArg (fun q=>some (AV.v q)) (Bool.or_false _).symm) (.c2 a8 a8 (.c2 a8 a8 (.c2 a8 a8 (.nil _))))) (a8) fun z hF => ?_
      ·simp
      refine .q 8 hG ⟨fun hc112 => ?_,fun hc112 => ?_⟩
      ·refine .q 3 hG ?_
       have hz2:z < b.j4.length:=by omega
       refine .draw (by kernel_rfl) 13 [[],[(115,0)],[],[(117,2)],[],[(119,4)],[],[(120,5),(121,6)],[(122,7)],[(123,8)],[(118,3),(124,9)],[(116,1),(125,10)],[(126,11)]] a8 (by kernel_rfl) a8 ?_
       refine⟨_,j6.move (.t a8) a8,?_⟩
       refine⟨_,j6.move (.t a8) a8,?_⟩
       refine⟨_,⟨_,_,a8,a8,fun hg117=>j6.A7 p9.l0 (fun x=>x.l9) a8d a8 (fun _=>a8) (.t a8) a8⟩,?_⟩
       refine⟨_,⟨_,_,a8,a8,fun hg118=>j6.G6 a3y (.q a8 hg118) a8⟩,?_⟩
       refine⟨_,⟨_,_,a8,a8,fun hg119=>j6.A7 u1.l5 (fun x=>x.j4) Z0 a8 (fun _=>a8) (.t a8) a8⟩,?_⟩
       refine⟨_,⟨_,_,a8,a8,fun hg120=>j6.G6 c0i (.q a8 hg120) a8⟩,?_⟩
       refine⟨_,⟨_,_,a8,a8,fun hg121=>j6.move (.t a8) a8⟩,?_⟩
       refine⟨_,⟨_,_,a8,a8,fun hg122=>j6.idx a05 underlying27 (.q a8 hg122) (.q a8 hg122) (by first|omega|(simp;omega)|(have:=hg122;simp at this;omega)) (by first|omega|(simp;omega)|(have:=hg122;simp at this;omega)) a8⟩,?_⟩
       refine⟨_,⟨_,_,a8,a8,fun hg123=>j6.A7 p9.l0 (fun x=>x.l9) a8d a8 (fun _=>a8) (.q a8 hg123) a8⟩,?_⟩
       refine⟨_,⟨_,_,a8,a8,fun hg124=>j6.G6 a3y (.q a8 hg124) a8⟩,?_⟩
       refine⟨_,⟨_,_,a8,a8,fun hg125=>j6.o8 hG (a6R _ _) (.cons (.q a8 hg125) (.cons (.q a8 hg125) .nil)) a8⟩,?_⟩
       refine⟨_,j6.a3Q (.t a8) (fun hp=>(.q a8 hp)) a8,?_⟩
       refine⟨_,j6.assign (.t a8) a8,?_⟩
       show D0 _ _ _ _ _ [] ((5,_)::(126,_)::(125,_)::(124,_)::(123,_)::(122,_)::(121,_)::(120,_)::(119,_)::(118,_)::(117,_)::(116,_)::(115,_)::_) _
       refine .q 1 hG ?_
       have hf3:(V0 b.j4 i||((b.j4.take z).any fun d=>decide (d.l9=b.j4[i].l9))||decide (b.j4[i].l9=b.j4[z].l9))=(V0 b.j4 i||(b.j4.take (z+1)).any fun d=>decide (d.l9=b.j4[i].l9)):=(by rw [any_succ _ b.j4 z hz2,←Bool.or_assoc,decide_eq_decide.2 (show b.j4[i].l9=b.j4[z].l9↔b.j4[z].l9=b.j4[i].l9 from eq_comm)])
       refine .q 2 hG ?_
       refine .ad (by omega) (by omega) ?_
       refine .q 2 hG ?_
       refine⟨z+1,.cons (congrArg (fun q=>some (AV.v q)) hf3) (.c2 rfl rfl (.c2 rfl rfl (.c2 rfl rfl (.nil _)))),rfl,?_,by omega⟩
       omega
      ·refine .q 1 hG ?_
       have he1:(a0r b i||decide ((b.j4[i].l9.length:Int) < 1)||decide ((1024:Int) < (b.j4[i].l9.length:Int))||(b.j4[i].l8.take y).any a35)=a0r b (i+1):=(by rw [b2z b i hi,List.take_of_length_le hy])
       have he2:(W7 b i||(b.j4[i].l8.take y).any a3G)=W7 b (i+1):=(by rw [b0S b i hi,List.take_of_length_le hy])
       have hz:z=i:=by omega
       have he3:(V0 b.j4 i||(b.j4.take z).any fun d=>decide (d.l9=b.j4[i].l9))=V0 b.j4 (i+1):=(by rw [hz,a30 b.j4 i hi])
       refine .q 2 hG ?_
       refine .ad (by omega) (by omega) ?_
       refine .q 2 hG ?_
       refine⟨i+1,.cons (congrArg (fun q=>some (AV.v q)) he1) (.cons (congrArg (fun q=>some (AV.v q)) he2) (.cons (congrArg (fun q=>some (AV.v q)) he3) (.c2 rfl rfl (.nil _)))),rfl,?_,by omega⟩
       exact⟨by omega,by rw [any_succ a1K _ i hi,h2];unfold a1K;rw [decide_eq_false (by omega)];rfl⟩
   ·refine .q 4 hG ?_
    obtain rfl:i=b.j4.length:=by omega
    rw [List.take_length] at h2
    have hm:=c0K hc49 h2
    have hr:=a0R hc33
    refine .q 4 hG ?_
    refine .cond (.t a8) (fun hc127 => ?_) (fun hc127 => ?_)
    ·refine .q 5 hG ?_
     refine .e1 a8 a8 ?_
     rw [c0M hr hm hc127]
    ·refine .q 5 hG ?_
     refine .cond (.t a8) (fun hc129 => ?_) (fun hc129 => ?_)
     ·refine .q 5 hG ?_
      refine .e1 a8 a8 ?_
      rw [c0N hr hm hc127 hc129]
     ·refine .q 5 hG ?_
      refine .cond (.t a8) (fun hc131 => ?_) (fun hc131 => ?_)
      ·refine .q 5 hG ?_
       refine .e1 a8 a8 ?_
       rw [b8S hr hm hc127 hc129 hc131]
      ·refine .q 1 hG ?_
       have h0:=c0O hr hm hc127 hc129 hc131
       refine .q 2 hG ?_
       refine .k hG (b8R _ (a4J h0)) ?_
       refine .q 4 hG ?_
       refine .cond (.t a8) (fun hc133 => ?_) (fun hc133 => ?_)
       ·refine .q 5 hG ?_
        refine .e1 a8 a8 ?_
        rw [a7y h0 (by simp only [decide_eq_true_eq] at hc133;omega)]
       ·refine .q 6 hG ?_
        refine .e1 a8 a8 ?_
        rw [a7z h0 (by simp only [decide_eq_false_iff_not] at hc133;omega)]
theorem b4n (l:List Epo) (p:Epo→Bool):p4 gl prog 36 [.v l,.a8r prog p] (fun r=>r = .v (idx l p)):=by
 refine p4.jn func36 (by kernel_rfl) 19 rfl fun C hC hG => ?_
 refine .q 6 hG ?_
 refine .T3 0 a8 fun hl0 => ?_
 refine .q 6 hG ?_
 refine .D8 (α:=Nat) [(0,_),(1,_),(7,_)] (fun k R=>(8,.v (k:Int))::R) (fun k => []) (fun k=>k≤l.length∧∀ j (hj:j < l.length),j < k→p l[j]=false) (fun k=>l.length - k) (0) (.c2 a8 a8 (.cons a8 (.nil _))) ?_ (.c2 a8 a8 (.c2 a8 a8 (.nil _))) (a8) fun k hF => ?_
 ·simp
 obtain⟨h1,h2⟩:=hF
 refine .q 6 hG ⟨fun hc9 => ?_,fun hc9 => ?_⟩
 ·refine .q 13 hG ?_
  refine .ix (by omega) (by omega) ?_
  refine .q 1 hG ?_
  refine .p (.a4y a8 (.t a8) ?_)
  refine .q 1 hG ?_
  refine .cond (.t a8) (fun hc16 => ?_) (fun hc16 => ?_)
  ·refine .q 6 hG ?_
   refine .e1 a8 a8 ?_
   rw [a8A (by omega) (by simpa using hc16) h2]
  ·refine .q 2 hG ?_
   refine .ad (by omega) (by omega) ?_
   refine .q 2 hG ?_
   refine⟨k+1,.c2 rfl rfl (.c2 rfl rfl (.nil _)),rfl,?_,by omega⟩
   refine⟨by omega,fun j hj hjk => ?_⟩;rcases Nat.lt_or_ge j k with h|h;exact h2 j hj h;(obtain rfl:j=k:=by omega);simpa using hc16
 ·refine .q 3 hG ?_
  refine .p (.assign (.i a8) ?_)
  refine .q 2 hG ?_
  refine .e1 a8 a8 ?_
  rw [a3A fun j hj=>h2 j hj (by omega)]
theorem b5A (f:Tag) (o:Bool) (t:Tag):p4 gl prog 41 [.v f,.v o,.v t] (fun r=>r = .v (o&&decide (f=t))):=by
 refine p4.jn func41 (by kernel_rfl) 13 rfl fun C hC hG => ?_
 refine .q 3 hG fun b3 => ?_
 refine .q 1 hG fun b5 => ?_
 refine .q 8 hG ?_
 refine .go 8 a8 (.t a8) (fun hg11 => .a8p underlying26 sz5 underlying5 b3b (.q a8 hg11) (.q a8 hg11) a8) ?_
 refine .q 4 hG ?_
 refine .e1 a8 a8 ?_
 rfl
theorem c0P (d:Bnd) (c:Cav):p4 gl prog 100 [.v d,.p c] (fun r=>r = .v (decide (d.l9=c.l9))):=by
 refine p4.jn func100 (by kernel_rfl) 9 rfl fun C hC hG => ?_
 refine .q 3 hG fun b2 => ?_
 refine .q 8 hG ?_
 refine .p (.o8 hG (a07 _ _) (.cons (.t a8) (.cons (.t a8) .nil)) ?_)
 refine .q 3 hG ?_
 refine .e1 a8 a8 ?_
 rfl
theorem b0T {l:List Bnd} {t:List UInt8} {d:Bnd} (h:a23 l t=some d):d.l9=t:=by
 have:=List.find?_some h;simpa using this
theorem b4o {l:List UInt8} (h:l.length=32):(⟨l,h⟩:Tag)=S0 default l:=I8.ext (a61 h).symm
theorem b4p {b:Bool} (h:(!b)=true):b=false:=by cases b<;>simp_all
theorem b4q {b:Bool} (h:(!b)=false):b=true:=by cases b<;>simp_all
theorem b5B {p:Tag×Bool} {t:Tag} (h:(p.2&&decide (p.1=t))=true):p=(t,true):=by
 simp only [Bool.and_eq_true,decide_eq_true_eq] at h;exact Prod.ext h.2 h.1
theorem b5C {p:Tag×Bool} {t:Tag} (h:(p.2&&decide (p.1=t))=false):p≠(t,true):=by
 rintro rfl;simp at h
theorem c3Q {p:Tag×Bool} {t:Tag} (h:(!p.2||decide (p.1≠t))=false):p=(t,true):=by
 simp only [Bool.or_eq_false_iff,decide_eq_false_iff_not,Bool.not_eq_false',Decidable.not_not] at h;exact Prod.ext h.2 h.1
theorem c1C {a:C9} {b:P9} {c:Cav} {t leaf:Tag} (h:(m6 a t (D1 c.l9)).2=false∨(C4 a (m6 a t (D1 c.l9)).1 c.Y5).2≠0∨(C4 a (m6 a t (D1 c.l9)).1 c.Y5).1.length≠32):Z8 a b c t leaf=14:=by
 unfold Z8
 rcases h with h|h
 ·rw [if_pos h]
 ·by_cases h2:(m6 a t (D1 c.l9)).2=false
  ·rw [if_pos h2]
  ·rw [if_neg h2,if_pos h]
theorem c0Q {a : C9} {b : P9} {c : Cav} {t leaf : Tag} (h : ¬ (m6 a t (D1 c.l9)).2 = false) (h2 : ¬ ((C4 a (m6 a t (D1 c.l9)).1 c.Y5).2 ≠ 0 ∨ (C4 a (m6 a t (D1 c.l9)).1 c.Y5).1.length ≠ 32)) :
    Z8 a b c t leaf=match a23 b.j4 c.l9 with
      | none=>17
      | some d =>
        if (a1D a (S0 default (C4 a (m6 a t (D1 c.l9)).1 c.Y5).1) c.l9 d.l8).2=false then 20 else
        if U9 a (a1D a (S0 default (C4 a (m6 a t (D1 c.l9)).1 c.Y5).1) c.l9 d.l8).1 leaf b.Request≠(d.Proof,true) then 20 else 0:=by
  unfold Z8;rw [if_neg h,if_neg h2]<;>rfl
theorem c2C (a:C9) (b:P9) (c:Cav) (t leaf:Tag) (hpl:∀ x∈a.x9,x.Plain.length≤1000000) (hc:c.l9.length≤1024):p4 gl prog 42 [.v a,.v b,.v c,.v t,.v leaf] (fun r=>r = .v (Z8 a b c t leaf)):=by
 refine p4.jn func42 (by kernel_rfl) 85 rfl fun C hC hG => ?_
 refine .q 3 hG fun b5 => ?_
 refine .q 1 hG fun b6 => ?_
 refine .q 1 hG fun b7 => ?_
 refine .q 1 hG fun b8 => ?_
 refine .q 1 hG fun b9 => ?_
 refine .q 3 hG ?_
 refine .y6 hC .z4 (.L6 5 a8 .z4 (.y6 hC .z3 (.L6 6 a8 .z3 (.y6 hC .z2 (.L6 7 a8 .z2 (.y6 hC .z1 (.L6 8 a8 .z1 (.y6 hC .z (.L6 9 a8 .z (.del .z (.del .z (.del .z (.del .z (.del .z ?_))))))))))))))
 refine .D7 [] (by kernel_rfl) 12 [[],[],[],[(22,2)],[(23,3)],[(20,0),(21,1),(24,4)],[(25,5)],[(19,6)],[(19,6)],[],[(11,9),(26,7)],[(27,8)]] [9,10] a8 (by kernel_rfl) a8 (by kernel_rfl) (by decide) ?_
 refine⟨_,fun H=>j6.G6 y9 (.t a8) a8,?_⟩
 refine⟨_,fun H=>j6.G6 A5 (.t a8) a8,?_⟩
 refine⟨_,fun H=>j6.A7 o5.l3 (fun x=>x.l9) b3j a8 (fun _=>a8) (.t a8) a8,?_⟩
 refine⟨_,fun H=>j6.G6 a3y (.t a8) a8,?_⟩
 refine⟨_,fun H=>j6.o8 hG (a9I _ _ (by decide) (by omega)) (.cons (.s [115,101,97,108] (by decide) (by decide)) (.cons (.t a8) .nil)) a8,?_⟩
 refine⟨_,fun H=>j6.o8 hG (a1w _ _ _) (.cons (.t a8) (.cons (.t a8) (.cons (.t a8) .nil))) a8,?_⟩
 refine⟨_,fun H=>j6.move (.t a8) a8,?_⟩
 refine⟨_,fun H=>j6.a03 (.t a8) a8,?_⟩
 refine⟨_,fun H=>j6.a04 (.t a8) a8,?_⟩
 refine .inl (.inl ?_)
 refine⟨_,fun H=>j6.assign (.t a8) a8,?_⟩
 refine⟨⟨([],j2 []),a8⟩,?_⟩
 refine A0.alloc A5 fun b11 => ?_
 refine⟨⟨([_],j2 []),a8⟩,?_⟩
 refine A0.R6 A5 (.t rfl) (.t rfl) .z ?_
 refine⟨⟨([_],j2 []),a8⟩,?_⟩
 show D0 _ _ _ _ _ [] ((12,_)::(11,_)::(27,_)::(26,_)::(19,_)::(25,_)::(24,_)::(23,_)::(22,_)::(21,_)::(20,_)::_) _
 refine .q 7 hG ?_
 refine .cond (.t a8) (fun hc29 => ?_) (fun hc29 => ?_)
 ·refine .q 5 hG ?_
  refine .e1 a8 a8 ?_
  rw [c1C (Or.inl (by(have hx:(!(m6 a t (D1 c.l9)).2)=true:=hc29;simpa using hx)))]
 ·refine .q 2 hG ?_
  have h1:¬(m6 a t (D1 c.l9)).2=false:=by(have hx:(!(m6 a t (D1 c.l9)).2)=false:=hc29;simpa using hx)
  refine .q 5 hG ?_
  refine .p (.o8 hG (b6q _ _ _ hpl) (.cons (.t a8) (.cons (.t a8) (.cons (.t a8) .nil))) ?_)
  refine .q 17 hG ?_
  refine .cond (.t a8) (fun hc44 => ?_) (fun hc44 => ?_)
  ·refine .q 5 hG ?_
   refine .e1 a8 a8 ?_
   rw [c1C (Or.inr (by(have hx:(decide ((C4 a (m6 a t (D1 c.l9)).1 c.Y5).2≠0)||decide (((C4 a (m6 a t (D1 c.l9)).1 c.Y5).1.length:Int)≠32))=true:=hc44);simp only [Bool.or_eq_true,decide_eq_true_eq] at hx;rcases hx with hx|hx;exact Or.inl hx;exact Or.inr (by omega)))]
  ·refine .q 2 hG ?_
   have h2:(C4 a (m6 a t (D1 c.l9)).1 c.Y5).2=0∧(C4 a (m6 a t (D1 c.l9)).1 c.Y5).1.length=32:=(by(have hx:(decide ((C4 a (m6 a t (D1 c.l9)).1 c.Y5).2≠0)||decide (((C4 a (m6 a t (D1 c.l9)).1 c.Y5).1.length:Int)≠32))=false:=hc44);simp only [Bool.or_eq_false_iff,decide_eq_false_iff_not,Decidable.not_not] at hx;exact⟨hx.1,by omega⟩)
   rw [c0Q h1 (by rintro (h|h);exact h h2.1;exact h h2.2)]
   refine .q 3 hG ?_
   refine .p (.b0n hG (fun x=>c0P x _) (.cons (.t a8) .nil) (.p (.o8 hG (a8K _ _) (.cons (.t a8) (.cons (.t a8) .nil)) ?_)))
   refine .q 9 hG ⟨fun hc50 => ?_,fun hc50 => ?_⟩
   ·refine .q 5 hG ?_
    refine .e1 a8 a8 ?_
    unfold a23
    rw [b0D (show ¬0≤idx b.j4 (fun d=>decide (d.l9=c.l9)) from fun hx=>absurd hc50 (Int.not_lt.2 hx))]
   ·refine .q 2 hG ?_
    have hi0:0≤idx b.j4 (fun d=>decide (d.l9=c.l9)):=Int.not_lt.1 hc50
    have hi1:=b3J hi0
    have hd:a23 b.j4 c.l9=some b.j4[(idx b.j4 (fun d=>decide (d.l9=c.l9))).toNat]:=b0C hi0 (by omega)
    have hdt:=b0T hd
    rw [hd]
    dsimp only
    refine .q 4 hG ?_
    refine .ix (by omega) (by omega) ?_
    refine .q 2 hG fun b16 => ?_
    refine .q 3 hG ?_
    refine .y6 hC .z (.L6 16 a8 .z ?_)
    have ed:a1D a (S0 default (C4 a (m6 a t (D1 c.l9)).1 c.Y5).1) c.l9 b.j4[(idx b.j4 (fun d=>decide (d.l9=c.l9))).toNat].l8=a1D a ⟨(C4 a (m6 a t (D1 c.l9)).1 c.Y5).1,h2.2⟩ b.j4[(idx b.j4 (fun d=>decide (d.l9=c.l9))).toNat].l9 b.j4[(idx b.j4 (fun d=>decide (d.l9=c.l9))).toNat].l8:=(by rw [hdt,b4o h2.2])
    rw [ed]
    refine .D7 [j1,j1] (by kernel_rfl) 15 [[],[],[(58,1)],[(59,2)],[],[(61,4)],[],[(63,6)],[(57,0),(60,3),(62,5),(64,7)],[(65,8)],[(56,9)],[(56,9)],[],[(17,12),(66,10)],[(67,11)]] [12,13] a8 (by kernel_rfl) a8 (by kernel_rfl) (by decide) ?_
    refine⟨_,fun H=>j6.G6 y9 (.t a8) a8,?_⟩
    refine⟨_,fun H=>j6.move (.t a8) a8,?_⟩
    refine⟨_,fun H=>j6.c0s underlying26 (by decide) (by decide) (.t a8) h2.2 a8,?_⟩
    refine⟨_,fun H=>j6.G6 A5 (.t a8) a8,?_⟩
    refine⟨_,fun H=>j6.A7 p9.l0 (fun x=>x.l9) a8d a8 (fun _=>a8) (.t a8) a8,?_⟩
    refine⟨_,fun H=>j6.G6 a3y (.t a8) a8,?_⟩
    refine⟨_,fun H=>j6.A7 p9.l1 (fun x=>x.l8) a4s a8 (fun _=>a8) (.t a8) a8,?_⟩
    refine⟨_,fun H=>j6.G6 a7I (.t a8) a8,?_⟩
    refine⟨_,fun H=>j6.o8 hG (b8z _ _ _ _ (by rw [hdt];omega)) (.cons (.t a8) (.cons (.t a8) (.cons (.t a8) (.cons (.t a8) .nil)))) a8,?_⟩
    refine⟨_,fun H=>j6.move (.t a8) a8,?_⟩
    refine⟨_,fun H=>j6.a03 (.t a8) a8,?_⟩
    refine⟨_,fun H=>j6.a04 (.t a8) a8,?_⟩
    refine .inl (.inl ?_)
    refine⟨_,fun H=>j6.assign (.t a8) a8,?_⟩
    refine⟨⟨([],j2 [c8,c8]),a8⟩,?_⟩
    refine A0.alloc A5 fun b17 => ?_
    refine⟨⟨([_],j2 [c8,c8]),a8⟩,?_⟩
    refine A0.R6 A5 (.t rfl) (.t rfl) .z ?_
    refine⟨⟨([_],j2 [c8,c8]),a8⟩,?_⟩
    show D0 _ _ _ _ _ [] ((12,_)::(17,_)::(67,_)::(66,_)::(56,_)::(65,_)::(64,_)::(63,_)::(62,_)::(61,_)::(60,_)::(59,_)::(58,_)::(57,_)::_) _
    refine .q 7 hG ?_
    refine .cond (.t a8) (fun hc69 => ?_) (fun hc69 => ?_)
    ·refine .q 5 hG ?_
     refine .e1 a8 a8 ?_
     have hx:(!(a1D a ⟨(C4 a (m6 a t (D1 c.l9)).1 c.Y5).1,h2.2⟩ b.j4[(idx b.j4 (fun d=>decide (d.l9=c.l9))).toNat].l9 b.j4[(idx b.j4 (fun d=>decide (d.l9=c.l9))).toNat].l8).2)=true:=hc69
     rw [if_pos (by simpa using hx)]
    ·refine .q 2 hG ?_
     have hx69:(!(a1D a ⟨(C4 a (m6 a t (D1 c.l9)).1 c.Y5).1,h2.2⟩ b.j4[(idx b.j4 (fun d=>decide (d.l9=c.l9))).toNat].l9 b.j4[(idx b.j4 (fun d=>decide (d.l9=c.l9))).toNat].l8).2)=false:=hc69
     rw [if_neg (by simpa using hx69)]
     refine .q 6 hG ?_
     refine .p (.o8 hG (b6x _ _ _ _) (.cons (.t a8) (.cons (.t a8) (.cons (.t a8) (.cons (.t a8) .nil)))) ?_)
     refine .q 4 hG fun b18 => ?_
     refine .q 10 hG ?_
     refine .p (.o8 hG (b5A _ _ _) (.cons (.t a8) (.cons (.t a8) (.cons (.t a8) .nil))) ?_)
     refine .q 2 hG ?_
     refine .cond (.t a8) (fun hc84 => ?_) (fun hc84 => ?_)
     ·refine .q 5 hG ?_
      refine .e1 a8 a8 ?_
      have hx:((U9 a (a1D a ⟨(C4 a (m6 a t (D1 c.l9)).1 c.Y5).1,h2.2⟩ b.j4[(idx b.j4 (fun d=>decide (d.l9=c.l9))).toNat].l9 b.j4[(idx b.j4 (fun d=>decide (d.l9=c.l9))).toNat].l8).1 leaf b.Request).2&&decide ((U9 a (a1D a ⟨(C4 a (m6 a t (D1 c.l9)).1 c.Y5).1,h2.2⟩ b.j4[(idx b.j4 (fun d=>decide (d.l9=c.l9))).toNat].l9 b.j4[(idx b.j4 (fun d=>decide (d.l9=c.l9))).toNat].l8).1 leaf b.Request).1=b.j4[(idx b.j4 (fun d=>decide (d.l9=c.l9))).toNat].Proof))=false:=b4p hc84
      rw [if_pos (b5C hx)]
     ·refine .q 6 hG ?_
      refine .e1 a8 a8 ?_
      have hx:((U9 a (a1D a ⟨(C4 a (m6 a t (D1 c.l9)).1 c.Y5).1,h2.2⟩ b.j4[(idx b.j4 (fun d=>decide (d.l9=c.l9))).toNat].l9 b.j4[(idx b.j4 (fun d=>decide (d.l9=c.l9))).toNat].l8).1 leaf b.Request).2&&decide ((U9 a (a1D a ⟨(C4 a (m6 a t (D1 c.l9)).1 c.Y5).1,h2.2⟩ b.j4[(idx b.j4 (fun d=>decide (d.l9=c.l9))).toNat].l9 b.j4[(idx b.j4 (fun d=>decide (d.l9=c.l9))).toNat].l8).1 leaf b.Request).1=b.j4[(idx b.j4 (fun d=>decide (d.l9=c.l9))).toNat].Proof))=true:=b4q hc84
      rw [if_neg (by rw [b5B hx];simp)]
theorem a8L {α:Type} {l:List α} {p:α→Bool} {k:Nat} (h:k < l.length) (h1:p l[k]=true) (h2:∀ j (hj:j < l.length),j < k→p l[j]=false):l.find? p=some l[k] :=
 List.find?_eq_some_iff_getElem.2 ⟨h1,k,h,rfl,fun j hj=>by rw [h2 j (by omega) hj];rfl⟩
theorem a8M {α:Type} {l:List α} {p:α→Bool} (h:∀ j (hj:j < l.length),p l[j]=false):l.find? p=none :=
 List.find?_eq_none.2 fun x hx=>by
  obtain⟨j,hj,rfl⟩:=List.getElem_of_mem hx
  rw [h j hj];decide
theorem c2D (b:P9) (t:List UInt8):p4 gl prog 113 [.v b,.v t] (fun r=>r = .t2 (.v ((a23 b.j4 t).getD default)) (.v (a23 b.j4 t).isSome)):=by
 refine p4.jn func113 (by kernel_rfl) 28 rfl fun C hC hG => ?_
 refine .q 3 hG fun b2 => ?_
 refine .q 1 hG fun b4 => ?_
 refine .q 4 hG ?_
 refine .y6 hC .z1 (.L6 2 a8 .z1 (.del (.s .z) ?_))
 refine .q 4 hG ?_
 refine .D8 (α:=Nat) [(1,_),(2,_),(4,_)] (fun k R=>(6,.v (k:Int))::R) (Function.const _ _) (fun k=>k≤b.j4.length∧∀ j (hj:j < b.j4.length),j < k→decide (b.j4[j].l9=t)=false) (fun k=>b.j4.length - k) (0) (.c2 a8 a8 (.cons a8 (.nil _))) ?_ (.c2 a8 a8 (.c2 a8 a8 (.nil _))) (a8) fun k hF => ?_
 ·simp
 obtain⟨h1,h2⟩:=hF
 refine .q 10 hG ⟨fun hc11 => ?_,fun hc11 => ?_⟩
 ·refine .q 8 hG ?_
  refine .ix (by omega) (by omega) ?_
  refine .q 3 hG ?_
  refine .p (.o8 hG (a6R _ _) (.cons (.t a8) (.cons (.t a8) .nil)) ?_)
  refine .q 1 hG ?_
  refine .cond (.t a8) (fun hc21 => ?_) (fun hc21 => ?_)
  ·refine .q 5 hG ?_
   refine .ix (by omega) (by omega) (.p (.G6 a05 (.t a8) (.n (.R6 a05 (.t a8) (.t a8) .z (.p (.assign .b ?_))))))
   refine .q 2 hG ?_
   refine⟨_,.r2 a8 (.cell a05 a8 .z) (.tmp a8),?_⟩
   have e:a23 b.j4 t=some b.j4[k]:=a8L (by omega) hc21 h2
   rw [e];rfl
  ·refine .q 1 hG ?_
   refine .T3 9 a8 fun hl9 => ?_
   refine .q 2 hG ?_
   refine .ad (by omega) (by omega) ?_
   refine .q 2 hG ?_
   refine⟨k+1,.c2 rfl rfl (.c2 rfl rfl (.nil _)),rfl,?_,by omega⟩
   refine⟨by omega,fun j hj hjk => ?_⟩;rcases Nat.lt_or_ge j k with h|h;exact h2 j hj h;(obtain rfl:j=k:=by omega);exact hc21
 ·refine .q 3 hG ?_
  refine .p (.bS0 (α:=p9) a8 a05 b5W (.n (.R6 a05 (.t a8) (.t a8) .z (.p (.assign .b ?_)))))
  refine .q 2 hG ?_
  refine⟨_,.r2 a8 (.cell a05 a8 .z) (.tmp a8),?_⟩
  have e:a23 b.j4 t=none:=a8M fun j hj=>h2 j hj (by omega)
  rw [e];rfl
theorem c0R (b:P9):p4 gl prog 43 [.v b] (fun r=>r = .v (a60 b)):=by
 refine p4.jn func43 (by kernel_rfl) 32 rfl fun C hC hG => ?_
 refine .q 3 hG fun b1 => ?_
 refine .q 2 hG ?_
 refine .scope ?_
 refine .q 1 hG ?_
 refine .label ?_
 refine .q 2 hG ?_
 refine .y6 hC .z (.L6 1 a8 .z (.del .z ?_))
 refine .q 7 hG ?_
 refine .D8 (α:=Nat) [(1,_),(8,_),(9,_)] (fun i R=>(10,.v (i:Int))::R) (Function.const _ _) (fun i=>i≤b.j4.length∧(b.j4.take i).any (a5U b)=false) (fun i=>b.j4.length - i) (0) (.c2 a8 a8 (.cons a8 (.nil _))) ?_ (.c2 a8 a8 (.c2 a8 a8 (.nil _))) (a8) fun i hF => ?_
 ·exact⟨Nat.zero_le _,a8⟩
 obtain⟨h1,h2⟩:=hF
 refine .q 1 hG ?_
 refine .T3 8 a8 fun hl8 => ?_
 refine .q 5 hG ⟨fun hc11 => ?_,fun hc11 => ?_⟩
 ·refine .q 5 hG ?_
  refine .ix (by omega) (by omega) ?_
  refine .q 2 hG fun b4 => ?_
  refine .q 4 hG ?_
  refine .y6 hC .z (.L6 4 a8 .z (.del .z ?_))
  have hi:i < b.j4.length:=by omega
  refine .q 7 hG ?_
  refine .D8 (α:=Nat) [(1,_),(4,_),(8,_),(9,_),(10,_),(15,_),(16,_)] (fun k R=>(17,.v (k:Int))::R) (Function.const _ _) (fun k=>k≤b.j8.length∧(b.j8.take k).any (fun c:Cav=>c.Q9&&decide (c.l9=b.j4[i].l9))=false) (fun k=>b.j8.length - k) (0) (.c2 a8 a8 (.c2 a8 a8 (.c2 a8 a8 (.cons a8 (.nil _))))) ?_ (.c2 a8 a8 (.c2 a8 a8 (.c2 a8 a8 (.c2 a8 a8 (.nil _))))) (a8) fun k hF => ?_
  ·exact⟨Nat.zero_le _,a8⟩
  obtain⟨h3,h4⟩:=hF
  refine .q 1 hG ?_
  refine .T3 15 a8 fun hl15 => ?_
  refine .q 5 hG ⟨fun hc18 => ?_,fun hc18 => ?_⟩
  ·refine .q 5 hG ?_
   refine .ix (by omega) (by omega) ?_
   refine .q 2 hG fun b6 => ?_
   refine .q 3 hG ?_
   refine .y6 hC .z (.L6 6 a8 .z (.del .z ?_))
   have hk:k < b.j8.length:=by omega
   refine .q 8 hG ?_
   refine .go 23 a8 (.t a8) (fun hg28 => .o8 hG (a07 _ _) (.cons (.q a8 hg28) (.cons (.q a8 hg28) .nil)) a8) ?_
   refine .q 2 hG ?_
   refine .cond (.t a8) (fun hc29 => ?_) (fun hc29 => ?_)
   ·refine .q 1 hG ?_
    have hex:a5U b b.j4[i]=false:=(by unfold a5U;rw [List.any_eq_true.2 ⟨b.j8[k],List.getElem_mem hk,hc29⟩];rfl)
    refine .q 1 hG ?_
    refine .ad (by omega) (by omega) ?_
    refine .q 2 hG ?_
    refine⟨i+1,.c2 rfl rfl (.c2 rfl rfl (.nil _)),rfl,?_,by omega⟩
    exact⟨by omega,by rw [any_succ (a5U b) _ i hi,h2,hex];rfl⟩
   ·refine .q 2 hG ?_
    refine .ad (by omega) (by omega) ?_
    refine .q 2 hG ?_
    refine⟨k+1,.c2 rfl rfl (.c2 rfl rfl (.c2 rfl rfl (.c2 rfl rfl (.nil _)))),rfl,?_,by omega⟩
    exact⟨by omega,by rw [any_succ (fun c:Cav=>c.Q9&&decide (c.l9=b.j4[i].l9)) _ k hk,h4];exact hc29⟩
  ·refine .q 6 hG ?_
   refine .e1 a8 a8 ?_
   have hex:a5U b b.j4[i]=true:=(by rw [List.take_of_length_le (by omega)] at h4;unfold a5U;rw [h4];rfl)
   have e:a60 b=true:=List.any_eq_true.2 ⟨_,List.getElem_mem hi,hex⟩
   rw [e]
 ·refine .q 6 hG ?_
  refine .e1 a8 a8 ?_
  rw [List.take_of_length_le (by omega)] at h2
  have e:a60 b=false:=h2
  rw [e]
end Go.Proofs.YtmmclghiidoldaaGreatDoor
