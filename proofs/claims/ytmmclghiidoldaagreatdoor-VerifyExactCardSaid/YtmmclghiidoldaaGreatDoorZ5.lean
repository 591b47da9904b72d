/- Plain Lean over any program, and walks of this seat's functions: contracts, each proved once (part 5). -/
import Derived.Test.YtmmclghiidoldaaGreatDoorZ4
set_option maxRecDepth 1000000
set_option synthInstance.maxSize 1000000
set_option synthInstance.maxHeartbeats 10000000
set_option linter.unusedVariables false
set_option linter.unusedSimpArgs false
namespace Go.Proofs.YtmmclghiidoldaaGreatDoor
open Go.Proofs.Tryz
open Go.Fl Go.Ab Go.Mac Go.Sha
theorem a92 (s:Str) (b:List UInt8) (hs:s.l.length≤1000) (hb:b.length≤1000000):u1 gl prog 92 [.v s,.v b] (fun r=>r = .v (s.l++b)):=by
 refine u1.jn func92 (by kernel_rfl) 9 rfl fun C hC hG => ?_
 refine .q 7 hG ?_
 refine .h (.X7 underlying9 underlying86 underlying5 (.t a8) fun w6 => ?_)
 refine .q 1 hG ?_
 refine .ap (by omega) (by omega) fun w8 => ?_
 refine .q 2 hG ?_
 refine .u0 hC .z (.as 4 a8 .z ?_)
 refine .q 1 hG ?_
 refine .e1 a8 a8 ?_
 rfl
theorem b8B (e n:Int):u1 gl prog 89 [.v e,.v n] (fun r=>r = .v (J6 e n)):=by
 refine u1.jn func89 (by kernel_rfl) 19 rfl fun C hC hG => ?_
 refine .q 23 hG ?_
 refine .e1 a8 a8 ?_
 rfl
theorem b6A (n:Int) (h0:0≤n) (h1:n≤281474976710656):u1 gl prog 90 [.v n] (fun r=>r = .v (O4 n)):=by
 have hlen:=B3 (n:=n.toNat) (by omega)
 refine u1.jn func90 (by kernel_rfl) 12 rfl fun C hC hG => ?_
 refine .q 7 hG ?_
 refine .p (.o7 hG ((a1D _ _ (by decide) (by omega) (by omega)).b8n) (.cons .b3E (.cons (.t a8) .nil)) ?_)
 refine .q 9 hG ?_
 refine .p (.o7 hG (a92 _ _ (by decide) (by simp<;>omega)) (.cons (.s [109,105,110,116] (by decide) (by decide)) (.cons (.t a8) .nil)) ?_)
 refine .q 3 hG ?_
 refine .e1 a8 a8 ?_
 rfl
theorem a8Q (n:Int) (h0:0≤n) (h1:n≤281474976710656):u1 gl prog 71 [.v n] (fun r=>r = .v (O4 n)):=by
 have hlen:=B3 (n:=n.toNat) (by omega)
 refine u1.jn func71 (by kernel_rfl) 6 rfl fun C hC hG => ?_
 refine .q 7 hG ?_
 refine .k hG (F4 _ (by omega) (by omega)) (.p (.o7 hG (a4F _ _ (by decide) (by omega)) (.cons (.s [109,105,110,116] (by decide) (by decide)) (.cons (.t a8) .nil)) ?_))
 refine .q 3 hG ?_
 refine .e1 a8 a8 ?_
 rfl
theorem a36 (c:Y0):(W9 c).1.length≤2100:=by
 unfold W9;split
 ·next h=>exact a2l h
 ·simp
theorem a17 (p:Pred):(U9 p).1.length≤24:=by
 unfold U9;split
 ·next h=>exact H4 (O3 h)
 ·simp
theorem a94 (c:Y0):u1 gl prog 110 [.v c] (fun r=>r = .v (Y5 c)):=by
 have hlen:=a36 c
 refine u1.jn func110 (by kernel_rfl) 12 rfl fun C hC hG => ?_
 refine .q 3 hG fun b1 => ?_
 refine .q 5 hG ?_
 refine .k hG (a90 _) ?_
 refine .q 9 hG ?_
 refine .p (.o7 hG (a4F _ _ (by decide) (by omega)) (.cons (.s [99,97,118,101,97,116] (by decide) (by decide)) (.cons (.t a8) .nil)) ?_)
 refine .q 3 hG ?_
 refine .e1 a8 a8 ?_
 rfl
theorem a8R (t:List UInt8) (h:t.length≤1000000):u1 gl prog 111 [.v t] (fun r=>r = .v (A9 t)):=by
 refine u1.jn func111 (by kernel_rfl) 5 rfl fun C hC hG => ?_
 refine .q 7 hG ?_
 refine .p (.o7 hG (a4F _ _ (by decide) (by omega)) (.cons (.s [115,101,97,108] (by decide) (by decide)) (.cons (.t a8) .nil)) ?_)
 refine .q 3 hG ?_
 refine .e1 a8 a8 ?_
 rfl
theorem a7x (t:List UInt8) (h:t.length≤1000000):u1 gl prog 144 [.v t] (fun r=>r = .v (a0D t)):=by
 refine u1.jn func144 (by kernel_rfl) 5 rfl fun C hC hG => ?_
 refine .q 7 hG ?_
 refine .p (.o7 hG (a4F _ _ (by decide) (by omega)) (.cons (.s [103,114,97,110,116] (by decide) (by decide)) (.cons (.t a8) .nil)) ?_)
 refine .q 3 hG ?_
 refine .e1 a8 a8 ?_
 rfl
theorem a8S (p:Pred):u1 gl prog 145 [.v p] (fun r=>r = .v (X3 p)):=by
 have hlen:=a17 p
 refine u1.jn func145 (by kernel_rfl) 12 rfl fun C hC hG => ?_
 refine .q 3 hG fun b1 => ?_
 refine .q 5 hG ?_
 refine .k hG (a5S _) ?_
 refine .q 9 hG ?_
 refine .p (.o7 hG (a4F _ _ (by decide) (by omega)) (.cons (.s [99,111,110,100,105,116,105,111,110] (by decide) (by decide)) (.cons (.t a8) .nil)) ?_)
 refine .q 3 hG ?_
 refine .e1 a8 a8 ?_
 rfl
theorem a7Y (r:Rq):u1 gl prog 104 [.v r] (fun x=>x = .v (S2 r)):=by
 refine u1.jn func104 (by kernel_rfl) 21 rfl fun C hC hG => ?_
 refine .q 3 hG fun b1 => ?_
 refine .q 25 hG ?_
 refine .e1 a8 a8 ?_
 rfl
theorem b4p (r:Rq):u1 gl prog 96 [.v r] (fun x=>x = .v (S2 r)):=by
 refine u1.jn func96 (by kernel_rfl) 21 rfl fun C hC hG => ?_
 refine .q 3 hG fun b1 => ?_
 refine .q 25 hG ?_
 refine .e1 a8 a8 ?_
 rfl
theorem b2t {r:Rq} (h:S2 r=true):(a1m r).length≤14:=by
 obtain⟨g0,g1,n0,n1⟩:=a1n h
 have l1:=B3 (n:=r.Gate.toNat) (by omega)
 have l2:=B3 (n:=r.E4.toNat) (by omega)
 unfold a1m;rw [List.length_append];omega
theorem a4O (r:Rq) (h:S2 r=true):F5 gl prog 135 [.v r] [] (fun x Hs=>∃ u,x = .raw u∧Hs = [.own 5 u (a1m r)]):=by
 obtain⟨g0,g1,n0,n1⟩:=a1n h
 have l1:=B3 (n:=r.Gate.toNat) (by omega)
 have l2:=B3 (n:=r.E4.toNat) (by omega)
 refine F5.Q6 func135 rfl (by kernel_rfl) 10 rfl rfl _ rfl _ rfl fun C hC hG => ?_
 refine .q 3 hG fun b1 => ?_
 refine .q 3 hG ?_
 refine .A0 hC .z (.M1 1 a8 .z (.a7n (by kernel_rfl) 8 [[],[(3,0)],[(4,1)],[],[(6,3)],[(7,4)],[(5,2),(8,5)],[(9,6)]] [2,6,7] a8 (by kernel_rfl) a8 (by kernel_rfl) (by decide) ?_))
 refine⟨_,fun H=>j6.A7 u6.l0 (fun x=>x.Gate) b3o a8 (fun _=>a8) (.t a8) a8,?_⟩
 refine⟨_,fun H=>j6.G2 R6 (.t a8) a8,?_⟩
 refine .inl ?_
 refine⟨_,fun H=>j6.A7 u6.l1 (fun x=>x.E4) b0k a8 (fun _=>a8) (.t a8) a8,?_⟩
 refine⟨_,fun H=>j6.G2 R6 (.t a8) a8,?_⟩
 refine⟨_,fun H=>j6.o7 hG (F4 _ (by omega) (by omega)) (.cons (.t a8) .nil) a8,?_⟩
 refine .inl (.inl ?_)
 refine A6.a1c hG (a2Z _ (by omega) (by omega)) (.cons (.t rfl) .nil) fun r5 Hs5 hr5 => ?_
 obtain⟨u5,rfl,rfl⟩:=hr5
 refine A6.append P5 (.inl ⟨_,underlying86⟩) rfl .z (.v (.t rfl)) (by omega) (by omega) (fun w9 => ?_) rfl
 refine A6.ofP (j6.assign (.t rfl) ?_)
 show D5 _ _ _ _ _ [] ((2,_)::(9,_)::(8,_)::(7,_)::(6,_)::(5,_)::(4,_)::(3,_)::_) _
 refine .q 2 hG ?_
 refine .e1 a8 a8 ?_
 refine⟨_,.cons .z (.nil),?_⟩
 exact⟨_,a8,a8⟩
theorem a8T (leaf:Tag) (r:Rq) (h:S2 r=true):u1 gl prog 136 [.v leaf,.v r] (fun x=>x = .v (X4 leaf r)):=by
 obtain⟨g0,g1,n0,n1⟩:=a1n h
 have l1:=B3 (n:=r.Gate.toNat) (by omega)
 have l2:=B3 (n:=r.E4.toNat) (by omega)
 have hlb:=b2t h
 refine u1.jn func136 (by kernel_rfl) 12 rfl fun C hC hG => ?_
 refine .q 3 hG fun b2 => ?_
 refine .q 1 hG fun b3 => ?_
 refine .q 3 hG ?_
 refine .A0 hC .z1 (.M1 2 a8 .z1 (.A0 hC .z (.M1 3 a8 .z (.a7n (by kernel_rfl) 8 [[],[],[(5,0),(6,1)],[],[(8,3)],[(7,2),(9,4)],[(10,5)],[(11,6)]] [0,2,5,6,7] a8 (by kernel_rfl) a8 (by kernel_rfl) (by decide) (.inl ?_)))))
 refine⟨_,fun H=>j6.P0 (by decide) M0 (.t a8) a8,?_⟩
 refine .inl ?_
 refine⟨_,fun H=>j6.G2 a6W (.t a8) a8,?_⟩
 refine⟨_,fun H=>j6.o7 hG ((a4O _ h).b0I) (.cons (.t a8) .nil) a8,?_⟩
 refine .inl (.inl (.inl ?_))
 refine A6.buildSlice (α:=UInt8) ty5 underlying86 .nil rfl (by decide) fun b5 => ?_
 refine A6.append P5 (.inl ⟨_,underlying86⟩) rfl .z (.v (.t rfl)) (by simp) (by simp) (fun w7 => ?_) rfl
 refine A6.append P5 (.inl ⟨_,underlying86⟩) rfl .z (.v (.t rfl)) (by simp<;>omega) (by simp<;>omega) (fun w10 => ?_) rfl
 refine A6.c1d hG (a9L _ _ (by decide) (by simp [I7.len];omega)) (.cons (.e (.s [98,105,110,100] (by decide) (by decide))) (.cons (.own rfl .z) .nil)) (by rintro _ _ ⟨u,rfl,rfl⟩;exact .own) fun r11 Hs11 hr11 => ?_
 obtain⟨u11,rfl,rfl⟩:=hr11
 refine A6.ofP (j6.assign (.t rfl) ?_)
 show D5 _ _ _ _ _ [] ((4,_)::(11,_)::(10,_)::(9,_)::(8,_)::(7,_)::(6,_)::(5,_)::_) _
 refine .u0 hC .z (.as 4 a8 .z ?_)
 refine .q 2 hG ?_
 refine .e1 a8 a8 ?_
 rfl
theorem b2u (r:Rq) (h:S2 r=true):u1 gl prog 73 [.v r] (fun x=>x = .v (a27 r)):=by
 obtain⟨g0,g1,n0,n1⟩:=a1n h
 have l1:=B3 (n:=r.Gate.toNat) (by omega)
 have l2:=B3 (n:=r.E4.toNat) (by omega)
 refine u1.jn func73 (by kernel_rfl) 6 rfl fun C hC hG => ?_
 refine .q 3 hG fun b1 => ?_
 refine .q 5 hG ?_
 refine .k hG ((a4O _ h).b0I) (.p (.o7 hG (a4F _ _ (by decide) (by simp [a1m];omega)) (.cons (.s [114,101,113,117,101,115,116] (by decide) (by decide)) (.cons (.t a8) .nil)) ?_))
 refine .q 3 hG ?_
 refine .e1 a8 a8 ?_
 rfl
theorem b8C (s:Str) (b:List UInt8) (r:Rq) (hs:s.l.length≤1000) (hb:b.length≤1000) (h:S2 r=true):u1 gl prog 97 [.v s,.v b,.v r] (fun x=>x = .v (s.l++(b++a1m r))):=by
 obtain⟨g0,g1,n0,n1⟩:=a1n h
 have l1:=B3 (n:=r.Gate.toNat) (by omega)
 have l2:=B3 (n:=r.E4.toNat) (by omega)
 refine u1.jn func97 (by kernel_rfl) 26 rfl fun C hC hG => ?_
 refine .q 3 hG fun b5 => ?_
 refine .q 3 hG ?_
 refine .draw (by kernel_rfl) 11 [[],[],[(10,0),(11,1)],[],[(13,3)],[(12,2),(14,4)],[(15,5)],[(9,6)],[(9,6)],[(16,7)],[(17,8)]] a8 (by kernel_rfl) a8 ?_
 refine⟨_,j6.move (.t a8) a8,?_⟩
 refine⟨_,j6.move (.t a8) a8,?_⟩
 refine⟨_,j6.o7 hG (a92 _ _ (by omega) (by omega)) (.cons (.t a8) (.cons (.t a8) .nil)) a8,?_⟩
 refine⟨_,j6.B1 u6.l0 b3o a8 (.t a8) a8,?_⟩
 refine⟨_,j6.ldF (fun x=>x.Gate) R6 (.t a8) .z (fun _=>a8) a8,?_⟩
 refine⟨_,j6.o7 hG ((a1D _ _ (by simp<;>omega) (by omega) (by omega)).b8n) (.cons (.t a8) (.cons (.t a8) .nil)) a8,?_⟩
 refine⟨_,j6.move (.t a8) a8,?_⟩
 refine⟨_,j6.Z8 (.t a8) a8,?_⟩
 refine⟨_,j6.Z9 (.t a8) a8,?_⟩
 refine⟨_,j6.assign (.t a8) a8,?_⟩
 refine⟨_,j6.assign (.t a8) a8,?_⟩
 show D5 _ _ _ _ _ [] ((8,_)::(7,_)::(17,_)::(16,_)::(9,_)::(15,_)::(14,_)::(13,_)::(12,_)::(11,_)::(10,_)::_) _
 refine .q 6 hG ?_
 refine .p (.o7 hG ((a1D _ _ (by simp<;>omega) (by omega) (by omega)).b8n) (.cons (.t a8) (.cons (.t a8) .nil)) ?_)
 refine .q 11 hG ?_
 refine .e1 a8 a8 ?_
 unfold a1m;simp only [List.append_assoc]
theorem a8U {a:D0} {leaf:Tag} {r:Rq} (h:S2 r=false):V0 a leaf r=(default,false):=by unfold V0;rw [if_neg (by rw [h];decide)]
theorem a8V {a:D0} {leaf:Tag} {r:Rq} (h:S2 r=true):V0 a leaf r=l9 a leaf (a27 r):=by unfold V0;rw [if_pos h]
theorem a8W {a:D0} {t leaf:Tag} {r:Rq} (h:S2 r=false):M8 a t leaf r=(default,false):=by unfold M8;rw [if_neg (by rw [h];decide)]
theorem a8X {a:D0} {t leaf:Tag} {r:Rq} (h:S2 r=true):M8 a t leaf r=l9 a t (X4 leaf r):=by unfold M8;rw [if_pos h]
theorem b6B (a:D0) (leaf:Tag) (r:Rq):u1 gl prog 39 [.v a,.v leaf,.v r] (fun x=>x = .t2 (.v (V0 a leaf r).1) (.v (V0 a leaf r).2)):=by
 refine u1.jn func39 (by kernel_rfl) 19 rfl fun C hC hG => ?_
 refine .q 3 hG fun b3 => ?_
 refine .q 1 hG fun b4 => ?_
 refine .q 1 hG fun b5 => ?_
 refine .q 1 hG fun b6 => ?_
 refine .q 6 hG ?_
 refine .k hG (b4p _) ?_
 refine .q 2 hG ?_
 refine .cond (.t a8) (fun hc10 => ?_) (fun hc10 => ?_)
 ·refine .q 2 hG ?_
  refine .p (.O0 (default:(I7 32 UInt8)) y6 M0 .nil a8 ?_)
  refine .q 4 hG ?_
  refine⟨_,.r2 a8 (.cell y6 a8 .z) (.tmp a8),?_⟩
  rw [a8U (by simpa using hc10)]
 ·refine .q 2 hG ?_
  have hro:S2 r=true:=by simpa using hc10
  refine .draw (by kernel_rfl) 7 [[],[],[],[(14,2)],[(12,0),(13,1),(15,3)],[(16,4)],[(16,4)]] a8 (by kernel_rfl) a8 ?_
  refine⟨_,j6.Q1 y7 (.t a8) .z3 a8,?_⟩
  refine⟨_,j6.Q1 y6 (.t a8) .z2 a8,?_⟩
  refine⟨_,j6.Q1 a6W (.t a8) .z1 a8,?_⟩
  refine⟨_,j6.o7 hG (b8C _ _ _ (by decide) (by decide) (by simpa using ‹(!S2 r)=false›)) (.cons (.s [114,101,113,117,101,115,116] (by decide) (by decide)) (.cons .b3E (.cons (.t a8) .nil))) a8,?_⟩
  refine⟨_,j6.o7 hG (a1C _ _ _) (.cons (.t a8) (.cons (.t a8) (.cons (.t a8) .nil))) a8,?_⟩
  refine⟨_,j6.Z8 (.t a8) a8,?_⟩
  refine⟨_,j6.Z9 (.t a8) a8,?_⟩
  show D5 _ _ _ _ _ [_,_] ((18,_)::(17,_)::(16,_)::(15,_)::(14,_)::(13,_)::(12,_)::_) _
  refine .q 4 hG ?_
  refine⟨_,.r2 a8 (.cell y6 a8 .z) (.tmp a8),?_⟩
  rw [a8V hro]
  rfl
theorem b4q (a:D0) (leaf:Tag) (r:Rq):u1 gl prog 47 [.v a,.v leaf,.v r] (fun x=>x = .t2 (.v (V0 a leaf r).1) (.v (V0 a leaf r).2)):=by
 refine u1.jn func47 (by kernel_rfl) 19 rfl fun C hC hG => ?_
 refine .q 3 hG fun b3 => ?_
 refine .q 1 hG fun b4 => ?_
 refine .q 1 hG fun b5 => ?_
 refine .q 1 hG fun b6 => ?_
 refine .q 6 hG ?_
 refine .k hG (a7Y _) ?_
 refine .q 2 hG ?_
 refine .cond (.t a8) (fun hc10 => ?_) (fun hc10 => ?_)
 ·refine .q 2 hG ?_
  refine .p (.O0 (default:(I7 32 UInt8)) y6 M0 .nil a8 ?_)
  refine .q 4 hG ?_
  refine⟨_,.r2 a8 (.cell y6 a8 .z) (.tmp a8),?_⟩
  rw [a8U (by simpa using hc10)]
 ·refine .q 2 hG ?_
  have hro:S2 r=true:=by simpa using hc10
  refine .draw (by kernel_rfl) 7 [[],[],[],[(14,2)],[(12,0),(13,1),(15,3)],[(16,4)],[(16,4)]] a8 (by kernel_rfl) a8 ?_
  refine⟨_,j6.Q1 y7 (.t a8) .z3 a8,?_⟩
  refine⟨_,j6.Q1 y6 (.t a8) .z2 a8,?_⟩
  refine⟨_,j6.Q1 a6W (.t a8) .z1 a8,?_⟩
  refine⟨_,j6.o7 hG (b2u _ (by simpa using ‹(!S2 r)=false›)) (.cons (.t a8) .nil) a8,?_⟩
  refine⟨_,j6.o7 hG (a2X _ _ _) (.cons (.t a8) (.cons (.t a8) (.cons (.t a8) .nil))) a8,?_⟩
  refine⟨_,j6.Z8 (.t a8) a8,?_⟩
  refine⟨_,j6.Z9 (.t a8) a8,?_⟩
  show D5 _ _ _ _ _ [_,_] ((18,_)::(17,_)::(16,_)::(15,_)::(14,_)::(13,_)::(12,_)::_) _
  refine .q 4 hG ?_
  refine⟨_,.r2 a8 (.cell y6 a8 .z) (.tmp a8),?_⟩
  rw [a8V hro]
theorem b6C (a:D0) (t leaf:Tag) (r:Rq):u1 gl prog 103 [.v a,.v t,.v leaf,.v r] (fun x=>x = .t2 (.v (M8 a t leaf r).1) (.v (M8 a t leaf r).2)):=by
 refine u1.jn func103 (by kernel_rfl) 22 rfl fun C hC hG => ?_
 refine .q 3 hG fun b4 => ?_
 refine .q 1 hG fun b5 => ?_
 refine .q 1 hG fun b6 => ?_
 refine .q 1 hG fun b7 => ?_
 refine .q 1 hG fun b8 => ?_
 refine .q 6 hG ?_
 refine .k hG (b4p _) ?_
 refine .q 2 hG ?_
 refine .cond (.t a8) (fun hc12 => ?_) (fun hc12 => ?_)
 ·refine .q 2 hG ?_
  refine .p (.O0 (default:(I7 32 UInt8)) y6 M0 .nil a8 ?_)
  refine .q 4 hG ?_
  refine⟨_,.r2 a8 (.cell y6 a8 .z) (.tmp a8),?_⟩
  rw [a8W (by simpa using hc12)]
 ·refine .q 2 hG ?_
  refine .A0 hC .z2 (.M1 6 a8 .z2 ?_)
  have hro:S2 r=true:=by simpa using hc12
  refine .draw (by kernel_rfl) 8 [[],[],[],[],[(16,2),(17,3)],[(14,0),(15,1),(18,4)],[(19,5)],[(19,5)]] a8 (by kernel_rfl) a8 ?_
  refine⟨_,j6.Q1 y7 (.t a8) .z4 a8,?_⟩
  refine⟨_,j6.Q1 y6 (.t a8) .z3 a8,?_⟩
  refine⟨_,j6.P0 (by decide) M0 (.t a8) a8,?_⟩
  refine⟨_,j6.Q1 a6W (.t a8) .z1 a8,?_⟩
  refine⟨_,j6.o7 hG (b8C _ _ _ (by decide) (by simp [I7.len]) (by simpa using ‹(!S2 r)=false›)) (.cons (.s [98,105,110,100] (by decide) (by decide)) (.cons (.t a8) (.cons (.t a8) .nil))) a8,?_⟩
  refine⟨_,j6.o7 hG (a1C _ _ _) (.cons (.t a8) (.cons (.t a8) (.cons (.t a8) .nil))) a8,?_⟩
  refine⟨_,j6.Z8 (.t a8) a8,?_⟩
  refine⟨_,j6.Z9 (.t a8) a8,?_⟩
  show D5 _ _ _ _ _ [_,_] ((21,_)::(20,_)::(19,_)::(18,_)::(17,_)::(16,_)::(15,_)::(14,_)::_) _
  refine .q 4 hG ?_
  refine⟨_,.r2 a8 (.cell y6 a8 .z) (.tmp a8),?_⟩
  rw [a8X hro]
  rfl
theorem b4r (a:D0) (t leaf:Tag) (r:Rq):u1 gl prog 115 [.v a,.v t,.v leaf,.v r] (fun x=>x = .t2 (.v (M8 a t leaf r).1) (.v (M8 a t leaf r).2)):=by
 refine u1.jn func115 (by kernel_rfl) 22 rfl fun C hC hG => ?_
 refine .q 3 hG fun b4 => ?_
 refine .q 1 hG fun b5 => ?_
 refine .q 1 hG fun b6 => ?_
 refine .q 1 hG fun b7 => ?_
 refine .q 1 hG fun b8 => ?_
 refine .q 6 hG ?_
 refine .k hG (a7Y _) ?_
 refine .q 2 hG ?_
 refine .cond (.t a8) (fun hc12 => ?_) (fun hc12 => ?_)
 ·refine .q 2 hG ?_
  refine .p (.O0 (default:(I7 32 UInt8)) y6 M0 .nil a8 ?_)
  refine .q 4 hG ?_
  refine⟨_,.r2 a8 (.cell y6 a8 .z) (.tmp a8),?_⟩
  rw [a8W (by simpa using hc12)]
 ·refine .q 2 hG ?_
  have hro:S2 r=true:=by simpa using hc12
  refine .draw (by kernel_rfl) 8 [[],[],[],[],[(16,2),(17,3)],[(14,0),(15,1),(18,4)],[(19,5)],[(19,5)]] a8 (by kernel_rfl) a8 ?_
  refine⟨_,j6.Q1 y7 (.t a8) .z4 a8,?_⟩
  refine⟨_,j6.Q1 y6 (.t a8) .z3 a8,?_⟩
  refine⟨_,j6.Q1 y6 (.t a8) .z2 a8,?_⟩
  refine⟨_,j6.Q1 a6W (.t a8) .z1 a8,?_⟩
  refine⟨_,j6.o7 hG (a8T _ _ (by simpa using ‹(!S2 r)=false›)) (.cons (.t a8) (.cons (.t a8) .nil)) a8,?_⟩
  refine⟨_,j6.o7 hG (a2X _ _ _) (.cons (.t a8) (.cons (.t a8) (.cons (.t a8) .nil))) a8,?_⟩
  refine⟨_,j6.Z8 (.t a8) a8,?_⟩
  refine⟨_,j6.Z9 (.t a8) a8,?_⟩
  show D5 _ _ _ _ _ [_,_] ((21,_)::(20,_)::(19,_)::(18,_)::(17,_)::(16,_)::(15,_)::(14,_)::_) _
  refine .q 4 hG ?_
  refine⟨_,.r2 a8 (.cell y6 a8 .z) (.tmp a8),?_⟩
  rw [a8X hro]
theorem b6D (a:D0) (k:Tag) (t:List UInt8) (l:List Pred) (ht:t.length≤1000000):u1 gl prog 114 [.v a,.v k,.v t,.v l] (fun x=>x = .t2 (.v (a0t a k t l).1) (.v (a0t a k t l).2)):=by
 refine u1.jn func114 (by kernel_rfl) 60 rfl fun C hC hG => ?_
 refine .q 3 hG fun b4 => ?_
 refine .q 1 hG fun b5 => ?_
 refine .q 1 hG fun b8 => ?_
 refine .q 3 hG ?_
 refine .A0 hC .z2 (.M1 4 a8 .z2 (.A0 hC .z1 (.M1 5 a8 .z1 (.T7 3 a8 fun hl3=>(.D7 [j1,j1,j1] (by kernel_rfl) 11 [[],[],[],[(16,2)],[(14,0),(15,1),(17,3)],[(18,4)],[(13,5)],[(13,5)],[],[(10,8),(19,6)],[(20,7)]] [8,9] a8 (by kernel_rfl) a8 (by kernel_rfl) (by decide) ?_)))))
 refine⟨_,fun H=>j6.G2 y7 (.t a8) a8,?_⟩
 refine⟨_,fun H=>j6.G2 y6 (.t a8) a8,?_⟩
 refine⟨_,fun H=>j6.move (.t a8) a8,?_⟩
 refine⟨_,fun H=>j6.o7 hG (a7x _ ht) (.cons (.t a8) .nil) a8,?_⟩
 refine⟨_,fun H=>j6.o7 hG (a2X _ _ _) (.cons (.t a8) (.cons (.t a8) (.cons (.t a8) .nil))) a8,?_⟩
 refine⟨_,fun H=>j6.move (.t a8) a8,?_⟩
 refine⟨_,fun H=>j6.Z8 (.t a8) a8,?_⟩
 refine⟨_,fun H=>j6.Z9 (.t a8) a8,?_⟩
 refine .inl (.inl ?_)
 refine⟨_,fun H=>j6.assign (.t a8) a8,?_⟩
 refine⟨⟨([],j2 [c8,c8,c8]),a8⟩,?_⟩
 refine A6.alloc y6 fun b10 => ?_
 refine⟨⟨([_],j2 [c8,c8,c8]),a8⟩,?_⟩
 refine A6.O5 y6 (.t rfl) (.t rfl) .z ?_
 refine⟨⟨([_],j2 [c8,c8,c8]),a8⟩,?_⟩
 show D5 _ _ _ _ _ [] ((11,_)::(10,_)::(20,_)::(19,_)::(13,_)::(18,_)::(17,_)::(16,_)::(15,_)::(14,_)::_) _
 refine .q 3 hG ?_
 have hz:=a9T a k t l
 refine .q 4 hG ?_
 refine .D9 (α:=Nat) [(3,_),(4,_),(8,_),(10,_)] (fun x R=>(11,.v (W0 a k t (l.take x)).isSome)::(12,.v (x:Int))::R) (fun x => [(true,.ob (ptr b10 0) ((W0 a k t (l.take x)).getD default)),(true,.ob (ptr b8 0) (default:Tag)),(true,.fz (ptr b5 0) (.p k)),(true,.fz (ptr b4 0) (.p a))]) (fun x=>x≤l.length) (fun x=>l.length - x) (0) (.c2 a8 a8 (.c2 a8 a8 (.nil _))) ?_ (.cons (congrArg (fun q=>some (AV.v q)) hz.1.symm) (.c2 a8 a8 (.c2 a8 a8 (.cons a8 (.nil _))))) (congrArg (fun q => [(true,E3.ob _ q),_,_,_]) hz.2.symm) fun x hF => ?_
 ·simp
 refine .q 11 hG ?_
 refine .cond (.t a8) (fun hc27 => ?_) (fun hc27 => ?_)
 ·refine .q 5 hG ?_
  have hlt:x < l.length∧(W0 a k t (l.take x)).isSome=true:=by simpa using hc27
  refine .q 3 hG ?_
  refine .ix (by omega) (by omega) ?_
  refine .q 1 hG ?_
  refine .k hG (a1k _) ?_
  refine .q 4 hG ?_
  refine .go 36 a8 (.t a8) (fun hg39 => .idx T1 underlying83 (.q a8 hg39) (.q a8 hg39) (by first|omega|(simp;omega)|(have:=hg39;simp at this;omega)) (by first|omega|(simp;omega)|(have:=hg39;simp at this;omega)) a8) ?_
  refine .q 5 hG ?_
  refine .cond (.t a8) (fun hc43 => ?_) (fun hc43 => ?_)
  ·refine .q 2 hG ?_
   refine .p (.O0 (default:(I7 32 UInt8)) y6 M0 .nil a8 ?_)
   refine .q 4 hG ?_
   refine⟨_,.r2 a8 (.cell y6 a8 .z1) (.tmp a8),?_⟩
   have e:a0t a k t l=(default,false):=by unfold a0t;rw [b2m hlt.1 hc43];rfl
   rw [e]
  ·refine .q 1 hG ?_
   have hst:=a9U hlt.1 hlt.2 hc43
   refine .a0r [[j1,j1,j1,j1],[j0,j1,j1,j1]] [[j1,j1,j1,j1],[j1,j1,j1,j1],[j1,j1,j1,j1],[j1,j1,j1,j1],[j1,j1,j1,j1],[j1,j1,j1,j1],[j1,j1,j1,j1],[j1,j1,j1,j1],[j1,j1,j1,j1],[j1,j1,j1,j1],[j0,j1,j1,j1],[],[j0,j1,j1,j1]] [] [] 1 (by kernel_rfl) 13 [[],[],[],[],[(48,2),(49,3)],[(50,4)],[(51,5)],[(46,0),(47,1),(52,6)],[(53,7)],[(45,8)],[(45,8)],[(54,9)],[(55,10)]] [11] rfl (by kernel_rfl) rfl (by kernel_rfl) rfl (by decide) (by simp) (fun p hp=>by cases hp) (by kernel_rfl) rfl ?_
   refine⟨_,fun H=>j6.G2 y7 (.t a8) a8,?_⟩
   refine⟨_,fun H=>j6.Q1 y6 (.t a8) (u7.app .z) a8,?_⟩
   refine⟨_,fun H=>j6.move (.t a8) a8,?_⟩
   refine⟨_,fun H=>j6.move (.t a8) a8,?_⟩
   refine⟨_,fun H=>j6.idx T1 underlying83 (.t a8) (.t a8) (by omega) (by omega) a8,?_⟩
   refine⟨_,fun H=>j6.G2 T1 (.t a8) a8,?_⟩
   refine⟨_,fun H=>j6.o7 hG (a8S _) (.cons (.t a8) .nil) a8,?_⟩
   refine⟨_,fun H=>j6.o7 hG (a2X _ _ _) (.cons (.t a8) (.cons (.t a8) (.cons (.t a8) .nil))) a8,?_⟩
   refine⟨_,fun H=>j6.move (.t a8) a8,?_⟩
   refine⟨_,fun H=>j6.Z8 (.t a8) a8,?_⟩
   refine⟨_,fun H=>j6.Z9 (.t a8) a8,?_⟩
   refine .inl ?_
   refine⟨_,fun H=>j6.assign (.t a8) a8,?_⟩
   refine⟨a8,?_⟩
   refine⟨⟨j2 [c8,c8,c8,c8],a8⟩,fun Ys7 => ?_⟩
   refine A6.O5 y6 (.t rfl) (.t rfl) (u7.app (u7.app .z)) ?_
   refine⟨[],_,a8,?_⟩
   refine⟨⟨j2 [_,c8,c8,c8],a8⟩,fun ws7 => ?_⟩
   refine⟨⟨j2 [_,c8,c8,c8],a8⟩,fun _ => ?_⟩
   show D5 _ _ _ _ _ [] ((11,_)::(55,_)::(54,_)::(45,_)::(53,_)::(52,_)::(51,_)::(50,_)::(49,_)::(48,_)::(47,_)::(46,_)::_) _
   refine .q 3 hG ?_
   refine .ad (by omega) (by omega) ?_
   refine .q 2 hG ?_
   refine⟨x+1,.cons (congrArg (fun q=>some (AV.v q)) hst.1.symm) (.c2 rfl rfl (.c2 rfl rfl (.cons rfl (.nil _)))),congrArg (fun q => [(true,E3.ob _ q),_,_,_]) hst.2.symm,?_,by omega⟩
   omega
 ·refine .q 7 hG ?_
  refine .cond (.t a8) (fun hc57 => ?_) (fun hc57 => ?_)
  ·refine .q 2 hG ?_
   refine .p (.O0 (default:(I7 32 UInt8)) y6 M0 .nil a8 ?_)
   refine .q 4 hG ?_
   refine⟨_,.r2 a8 (.cell y6 a8 .z1) (.tmp a8),?_⟩
   have hn:W0 a k t l=none:=a63 a k t l x (by simpa using hc57)
   have e:a0t a k t l=(default,false):=by unfold a0t;rw [hn];rfl
   rw [e]
  ·refine .q 8 hG ?_
   refine⟨_,.r2 a8 (.cell y6 a8 .z1) (.tmp a8),?_⟩
   have h57:(W0 a k t (l.take x)).isSome=true:=by simpa using hc57
   have hx:l.length≤x:=by simpa [h57] using hc27
   rw [List.take_of_length_le hx] at h57 ⊢
   unfold a0t
   rw [h57]
theorem b8D (a:D0) (k:Tag) (t:List UInt8) (l:List Pred) (ht:t.length≤1000000):u1 gl prog 102 [.v a,.v k,.v t,.v l] (fun x=>x = .t2 (.v (a0t a k t l).1) (.v (a0t a k t l).2)):=by
 refine u1.jn func102 (by kernel_rfl) 58 rfl fun C hC hG => ?_
 refine .q 3 hG fun b4 => ?_
 refine .q 1 hG fun b5 => ?_
 refine .q 1 hG fun b8 => ?_
 refine .q 3 hG ?_
 refine .A0 hC .z2 (.M1 4 a8 .z2 (.A0 hC .z1 (.M1 5 a8 .z1 (.T7 3 a8 fun hl3=>(.D7 [j1,j1,j1] (by kernel_rfl) 11 [[],[],[],[(19,2)],[(17,0),(18,1),(20,3)],[(21,4)],[(16,5)],[(16,5)],[],[(10,8),(22,6)],[(23,7)]] [8,9] a8 (by kernel_rfl) a8 (by kernel_rfl) (by decide) ?_)))))
 refine⟨_,fun H=>j6.G2 y7 (.t a8) a8,?_⟩
 refine⟨_,fun H=>j6.G2 y6 (.t a8) a8,?_⟩
 refine⟨_,fun H=>j6.move (.t a8) a8,?_⟩
 refine⟨_,fun H=>j6.o7 hG (a92 _ _ (by decide) (by omega)) (.cons (.s [103,114,97,110,116] (by decide) (by decide)) (.cons (.t a8) .nil)) a8,?_⟩
 refine⟨_,fun H=>j6.o7 hG (a1C _ _ _) (.cons (.t a8) (.cons (.t a8) (.cons (.t a8) .nil))) a8,?_⟩
 refine⟨_,fun H=>j6.move (.t a8) a8,?_⟩
 refine⟨_,fun H=>j6.Z8 (.t a8) a8,?_⟩
 refine⟨_,fun H=>j6.Z9 (.t a8) a8,?_⟩
 refine .inl (.inl ?_)
 refine⟨_,fun H=>j6.assign (.t a8) a8,?_⟩
 refine⟨⟨([],j2 [c8,c8,c8]),a8⟩,?_⟩
 refine A6.alloc y6 fun b10 => ?_
 refine⟨⟨([_],j2 [c8,c8,c8]),a8⟩,?_⟩
 refine A6.O5 y6 (.t rfl) (.t rfl) .z ?_
 refine⟨⟨([_],j2 [c8,c8,c8]),a8⟩,?_⟩
 show D5 _ _ _ _ _ [] ((11,_)::(10,_)::(23,_)::(22,_)::(16,_)::(21,_)::(20,_)::(19,_)::(18,_)::(17,_)::_) _
 refine .q 3 hG ?_
 have hz:=a9T a k t l
 refine .q 6 hG ?_
 refine .D9 (α:=Nat) [(4,_),(8,_),(10,_),(24,_),(25,_)] (fun x R=>(11,.v (W0 a k t (l.take x)).isSome)::(26,.v (x:Int))::R) (fun x => [(true,.ob (ptr b10 0) ((W0 a k t (l.take x)).getD default)),(true,.ob (ptr b8 0) (default:Tag)),(true,.fz (ptr b5 0) (.p k)),(true,.fz (ptr b4 0) (.p a))]) (fun x=>x≤l.length) (fun x=>l.length - x) (0) (.c2 a8 a8 (.c2 a8 a8 (.cons a8 (.nil _)))) ?_ (.cons (congrArg (fun q=>some (AV.v q)) hz.1.symm) (.c2 a8 a8 (.c2 a8 a8 (.c2 a8 a8 (.nil _))))) (congrArg (fun q => [(true,E3.ob _ q),_,_,_]) hz.2.symm) fun x hF => ?_
 ·simp
 refine .q 6 hG ⟨fun hc27 => ?_,fun hc27 => ?_⟩
 ·refine .q 5 hG ?_
  refine .ix (by omega) (by omega) ?_
  refine .q 2 hG fun b13 => ?_
  refine .q 3 hG ?_
  have hlt:x < l.length:=by omega
  refine .A0 hC .z (.M1 13 a8 .z (.drop ?_))
  refine .q 2 hG ?_
  refine .k hG (a61 _) ?_
  refine .q 21 hG ?_
  refine .cond (.t a8) (fun hc45 => ?_) (fun hc45 => ?_)
  ·refine .q 2 hG ?_
   refine .p (.O0 (default:(I7 32 UInt8)) y6 M0 .nil a8 ?_)
   refine .q 4 hG ?_
   refine⟨_,.r2 a8 (.cell y6 a8 .z1) (.tmp a8),?_⟩
   rw [a7u] at hc45
   have hn:W0 a k t l=none:=(by by_cases hs:(W0 a k t (l.take x)).isSome=true;exact b2m hlt (by simp_all);exact a63 a k t l x (by simpa using hs))
   have e:a0t a k t l=(default,false):=by unfold a0t;rw [hn];rfl
   rw [e]
  ·refine .q 1 hG ?_
   rw [a7u] at hc45
   have hlt2:(W0 a k t (l.take x)).isSome=true:=by simp_all
   have hst:=a9U hlt hlt2 (by simp_all)
   have hpl:=a17 l[x]
   refine .a0r [[j1,j1,j1,j1],[j0,j1,j1,j1]] [[j1,j1,j1,j1],[j1,j1,j1,j1],[j1,j1,j1,j1],[j1,j1,j1,j1],[j1,j1,j1,j1],[j1,j1,j1,j1],[j1,j1,j1,j1],[j0,j1,j1,j1],[],[j0,j1,j1,j1]] [] [] 1 (by kernel_rfl) 10 [[],[],[],[(50,2)],[(48,0),(49,1),(51,3)],[(52,4)],[(47,5)],[(47,5)],[(53,6)],[(54,7)]] [8] rfl (by kernel_rfl) rfl (by kernel_rfl) rfl (by decide) (by simp) (fun p hp=>by cases hp) (by kernel_rfl) rfl ?_
   refine⟨_,fun H=>j6.G2 y7 (.t a8) a8,?_⟩
   refine⟨_,fun H=>j6.Q1 y6 (.t a8) (u7.app .z) a8,?_⟩
   refine⟨_,fun H=>j6.move (.t a8) a8,?_⟩
   refine⟨_,fun H=>j6.o7 hG (a92 _ _ (by decide) (Nat.le_trans (a17 _) (by decide))) (.cons (.s [99,111,110,100,105,116,105,111,110] (by decide) (by decide)) (.cons (.t a8) .nil)) a8,?_⟩
   refine⟨_,fun H=>j6.o7 hG (a1C _ _ _) (.cons (.t a8) (.cons (.t a8) (.cons (.t a8) .nil))) a8,?_⟩
   refine⟨_,fun H=>j6.move (.t a8) a8,?_⟩
   refine⟨_,fun H=>j6.Z8 (.t a8) a8,?_⟩
   refine⟨_,fun H=>j6.Z9 (.t a8) a8,?_⟩
   refine .inl ?_
   refine⟨_,fun H=>j6.assign (.t a8) a8,?_⟩
   refine⟨a8,?_⟩
   refine⟨⟨j2 [c8,c8,c8,c8],a8⟩,fun Ys8 => ?_⟩
   refine A6.O5 y6 (.t rfl) (.t rfl) (u7.app (u7.app .z)) ?_
   refine⟨[],_,a8,?_⟩
   refine⟨⟨j2 [_,c8,c8,c8],a8⟩,fun ws8 => ?_⟩
   refine⟨⟨j2 [_,c8,c8,c8],a8⟩,fun _ => ?_⟩
   show D5 _ _ _ _ _ [] ((11,_)::(54,_)::(53,_)::(47,_)::(52,_)::(51,_)::(50,_)::(49,_)::(48,_)::_) _
   refine .q 2 hG ?_
   refine .ad (by omega) (by omega) ?_
   refine .q 2 hG ?_
   refine⟨x+1,.cons (congrArg (fun q=>some (AV.v q)) hst.1.symm) (.c2 rfl rfl (.c2 rfl rfl (.c2 rfl rfl (.nil _)))),congrArg (fun q => [(true,E3.ob _ q),_,_,_]) hst.2.symm,?_,by omega⟩
   omega
 ·refine .q 9 hG ?_
  refine⟨_,.r2 a8 (.cell y6 a8 .z1) (.tmp a8),?_⟩
  rw [List.take_of_length_le (by omega)]
  rfl
theorem c2a (k:Tag) (l:List (List UInt8)) (hl:l.length≤1000000) (p:Tag→List UInt8→Tag×Bool):u1 gl prog 93 [.v k,.v l,.b8o prog p] (fun x=>x = .t2 (.v ((K8 p k l).getD [])) (.v (K8 p k l).isSome)):=by
 refine u1.jn func93 (by kernel_rfl) 41 rfl fun C hC hG => ?_
 refine .q 3 hG fun b3 => ?_
 refine .q 4 hG ?_
 refine .A0 hC .z (.M1 3 a8 .z (.drop ?_))
 refine .q 2 hG ?_
 refine .bs a8 (by decide) fun b14 => ?_
 refine .q 10 hG ?_
 refine .D9 (α:=Nat×Value×List Tag) [(2,_),(15,_),(16,_)] (fun x R=>(8,.raw x.2.1)::(17,.v (x.1:Int))::R) (fun x => [(true,.own 26 x.2.1 x.2.2)]) (fun x=>x.1≤l.length∧K8 p k (l.take x.1)=some x.2.2∧x.2.2.length=x.1+1) (fun x=>l.length - x.1) ((0,slc b14 0 1 1,[k])) (.c2 a8 a8 (.cons a8 (.nil _))) ?_ (.c2 a8 a8 (.c2 a8 a8 (.cons a8 (.nil _)))) (a8) fun x hF => ?_
 ·exact⟨Nat.zero_le _,a8,a8⟩
 obtain⟨i,w,s⟩:=x
 obtain⟨h1,h2,h3⟩:=hF
 dsimp only at h1 h2 h3 ⊢
 refine .q 6 hG ⟨fun hc18 => ?_,fun hc18 => ?_⟩
 ·refine .q 5 hG ?_
  refine .ix (by omega) (by omega) ?_
  refine .q 8 hG ?_
  refine .p (.a3S underlying54 a8 .z ?_)
  refine .sb (by omega) (by omega) (.p (.W7 y6 underlying54 a8 .z (.t a8) (by omega) (by omega) (.p (.b3H y6 (.t a8) .z (by omega) ?_))))
  refine .q 1 hG ?_
  refine .p (.b6t a8 (.t a8) (.t a8) ?_)
  refine .q 4 hG fun b11 => ?_
  refine .q 2 hG ?_
  refine .A0 hC .z (.M1 11 a8 .z (.drop ?_))
  refine .q 3 hG ?_
  rw [a8L (by omega)] at *
  refine .q 4 hG ?_
  refine .cond (.t a8) (fun hc34 => ?_) (fun hc34 => ?_)
  ·refine .q 6 hG ?_
   refine .e2 a8 a8 a8 ?_
   have e:K8 p k l=none:=b2n (by omega) h2 (by simpa using hc34)
   rw [e];rfl
  ·refine .q 4 hG ?_
   refine .bs a8 (by decide) fun b37 => ?_
   refine .ap (by simp<;>omega) (by simp<;>omega) fun w38 => ?_
   refine .q 1 hG ?_
   refine .drop ?_
   refine .q 2 hG ?_
   refine .ad (by omega) (by omega) ?_
   refine .q 2 hG ?_
   refine⟨(i+1,_,_),.c2 rfl rfl (.c2 rfl rfl (.cons rfl (.nil _))),rfl,?_,by dsimp only;omega⟩
   exact⟨by dsimp only;omega,a9V (by omega) h2 (by simpa using hc34),by simp;omega⟩
 ·refine .q 2 hG ?_
  refine .u0 hC .z (.as 8 a8 .z ?_)
  refine .q 6 hG ?_
  refine .e2 a8 a8 a8 ?_
  rw [List.take_of_length_le (by omega)] at h2
  rw [h2];rfl
theorem c0r (a:D0) (k:Tag) (m:List UInt8):u1 gl prog 94 [.v k,.v m,.p a] (fun r=>r = .t2 (.v (l9 a k m).1) (.v (l9 a k m).2)):=by
 refine u1.jn func94 (by kernel_rfl) 13 rfl fun C hC hG => ?_
 refine .q 3 hG fun b3 => ?_
 refine .q 1 hG fun b5 => ?_
 refine .q 7 hG ?_
 refine .p (.o7 hG (a1C _ _ _) (.cons (.t a8) (.cons (.t a8) (.cons (.t a8) .nil))) ?_)
 refine .q 6 hG ?_
 refine⟨_,.r2 a8 (.cell y6 a8 .z) (.tmp a8),?_⟩
 rfl
theorem c2b (a:D0) (root:u4) (n:Int) (l:List Y0) (hl:l.length≤100000):u1 gl prog 38 [.v a,.v root,.v n,.v l] (fun x=>x = .t2 (.v (U7 a root n l).1) (.v (U7 a root n l).2)):=by
 refine u1.jn func38 (by kernel_rfl) 57 rfl fun C hC hG => ?_
 refine .q 3 hG fun b4 => ?_
 refine .q 1 hG fun b5 => ?_
 refine .q 5 hG ?_
 refine .A0 hC .z1 (.M1 4 a8 .z1 (.A0 hC .z (.M1 5 a8 .z ?_)))
 refine .q 4 hG ?_
 refine .p (.o7 hG (b8B _ _) (.cons (.t a8) (.cons (.t a8) .nil)) ?_)
 refine .q 2 hG ?_
 refine .cond (.t a8) (fun hc21 => ?_) (fun hc21 => ?_)
 ·refine .q 6 hG ?_
  refine .e2 a8 a8 a8 ?_
  rw [b5z (by simpa using hc21)]
 ·refine .q 2 hG ?_
  have hro:J6 root.Number n=true:=by simpa using hc21
  have hr:=a4K hro
  refine .q 2 hG ?_
  refine .k hG (b6A _ (by omega) (by omega)) ?_
  refine .bs a8 (by decide) fun b24 => ?_
  refine .q 10 hG ?_
  refine .D9 (α:=Nat×Value) [(4,_),(5,_),(25,_),(26,_)] (fun x R=>(10,.raw x.2)::(27,.v (x.1:Int))::R) (fun x => [(true,.own 86 x.2 (D2 n (l.take x.1))),(true,.fz (ptr b5 0) (.p root)),(true,.fz (ptr b4 0) (.p a))]) (fun x=>x.1≤l.length∧(l.take x.1).all I4=true) (fun x=>l.length - x.1) ((0,slc b24 0 1 1)) (.c2 a8 a8 (.c2 a8 a8 (.nil _))) ?_ (.c2 a8 a8 (.c2 a8 a8 (.c2 a8 a8 (.nil _)))) (a8) fun x hF => ?_
  ·exact⟨Nat.zero_le _,a8⟩
  obtain⟨i,w⟩:=x
  obtain⟨h1,h2⟩:=hF
  dsimp only at h1 h2 ⊢
  refine .q 6 hG ⟨fun hc28 => ?_,fun hc28 => ?_⟩
  ·refine .q 5 hG ?_
   refine .ix (by omega) (by omega) ?_
   refine .q 2 hG fun b12 => ?_
   refine .q 3 hG ?_
   refine .A0 hC .z (.M1 12 a8 .z (.drop ?_))
   refine .q 2 hG ?_
   refine .k hG (b2s _) ?_
   refine .q 13 hG ⟨fun hc37 => ?_,fun hc37 => ?_⟩
   ·refine .q 7 hG ?_
    refine .e2 a8 a8 a8 ?_
    have hco:I4 l[i]=false:=by cases hc:I4 l[i];rfl;(exact absurd (by rw [show W9 l[(i:Int).toNat]=W9 l[i] from rfl,a1I hc]) hc37)
    rw [show W9 l[(i:Int).toNat]=([],5) from a5b (by rw [show I4 l[(i:Int).toNat]=false from hco];decide),b5A hro (b0M I4 l i (by omega) hco)]
   ·refine .q 1 hG ?_
    have hco:I4 l[i]=true:=by cases hc:I4 l[i];(exact absurd (by rw [show W9 l[(i:Int).toNat]=W9 l[i] from rfl,a5b (by rw [hc];decide)];decide) hc37);rfl
    have hcl:=a0E n (l.take i)
    have htl:(l.take i).length≤l.length:=by simp;omega
    refine .q 3 hG ?_
    refine .p (.o7 hG (a92 _ _ (by decide) (Nat.le_trans (a36 _) (by decide))) (.cons (.s [99,97,118,101,97,116] (by decide) (by decide)) (.cons (.t a8) .nil)) ?_)
    refine .bs a8 (by decide) fun b42 => ?_
    refine .ap (by simp<;>omega) (by simp<;>omega) fun w43 => ?_
    refine .q 1 hG ?_
    refine .drop ?_
    refine .q 2 hG ?_
    refine .ad (by omega) (by omega) ?_
    refine .q 2 hG ?_
    refine⟨(i+1,_),.c2 rfl rfl (.c2 rfl rfl (.c2 rfl rfl (.nil _))),congrArg (fun q => [(true,E3.own _ _ q),_,_]) (a8M n l i (by omega)).symm,?_,by dsimp only;omega⟩
    exact⟨by dsimp only;omega,by rw [all_succ I4 l i (by omega),h2,hco];rfl⟩
  ·refine .q 2 hG ?_
   have ht:=List.take_of_length_le (show l.length≤i by omega)
   rw [ht] at h2 ⊢
   have hcl:=a0E n l
   refine .u0 hC .z (.as 10 a8 .z ?_)
   refine .q 4 hG ?_
   refine .p (.c0n hG (fun x y=>c0r a x y) (.cons (.t a8) .nil) (.p (.o7 hG (c2a _ _ (by omega) _) (.cons (.t a8) (.cons (.t a8) (.cons (.t a8) .nil))) ?_)))
   refine .q 12 hG ?_
   refine .cond (.t a8) (fun hc54 => ?_) (fun hc54 => ?_)
   ·refine .q 6 hG ?_
    refine .e2 a8 a8 a8 ?_
    rw [b2o hro h2 (by simpa using hc54)]
   ·refine .q 2 hG ?_
    obtain⟨T0,hT⟩:=Option.isSome_iff_exists.1 (show(K8 (l9 a) root.Key (D2 n l)).isSome=true by simpa using hc54)
    obtain⟨T,hT2,hT3⟩:=a5V (k:=root.Key) hT
    subst hT2
    rw [hT]
    refine .q 2 hG ?_
    refine .p (.b7N y6 underlying54 (.t a8) (.i a8) (by omega) (by simp<;>omega) ?_)
    refine .q 4 hG ?_
    refine .e2 a8 a8 a8 ?_
    rw [b5B hro h2 hT];rfl
theorem c0s (a:D0) (root:u4) (n:Int) (l:List Y0) (hl:l.length≤100000):u1 gl prog 46 [.v a,.v root,.v n,.v l] (fun x=>x = .t2 (.v (U7 a root n l).1) (.v (U7 a root n l).2)):=by
 refine u1.jn func46 (by kernel_rfl) 71 rfl fun C hC hG => ?_
 refine .q 3 hG fun b4 => ?_
 refine .q 1 hG fun b5 => ?_
 refine .q 5 hG ?_
 refine .A0 hC .z1 (.M1 4 a8 .z1 (.A0 hC .z (.M1 5 a8 .z (.T7 3 a8 fun hl3 => ?_))))
 refine .q 18 hG ?_
 refine .cond (.t a8) (fun hc29 => ?_) (fun hc29 => ?_)
 ·refine .q 6 hG ?_
  refine .e2 a8 a8 a8 ?_
  rw [b5z (a9W hc29)]
 ·refine .q 5 hG ?_
  refine .k hG (a7w _) ?_
  refine .q 2 hG ?_
  refine .cond (.t a8) (fun hc32 => ?_) (fun hc32 => ?_)
  ·refine .q 6 hG ?_
   refine .e2 a8 a8 a8 ?_
   rw [b5A (a0S hc29) (by simpa using hc32)]
  ·refine .q 2 hG ?_
   have hr:=a4K (a0S hc29)
   refine .D7 [j1,j1] (by kernel_rfl) 12 [[],[],[(35,1)],[],[(37,3)],[(34,0),(36,2),(38,4)],[(39,5)],[(33,6)],[(33,6)],[],[(10,9),(40,7)],[(41,8)]] [9,10] a8 (by kernel_rfl) a8 (by kernel_rfl) (by decide) ?_
   refine⟨_,fun H=>j6.G2 y7 (.t a8) a8,?_⟩
   refine⟨_,fun H=>j6.A7 u4.l1 (fun x=>x.Key) b3x a8 (fun _=>a8) (.t a8) a8,?_⟩
   refine⟨_,fun H=>j6.G2 y6 (.t a8) a8,?_⟩
   refine⟨_,fun H=>j6.move (.t a8) a8,?_⟩
   refine⟨_,fun H=>j6.o7 hG (a8Q _ (by omega) (by omega)) (.cons (.t a8) .nil) a8,?_⟩
   refine⟨_,fun H=>j6.o7 hG (a2X _ _ _) (.cons (.t a8) (.cons (.t a8) (.cons (.t a8) .nil))) a8,?_⟩
   refine⟨_,fun H=>j6.move (.t a8) a8,?_⟩
   refine⟨_,fun H=>j6.Z8 (.t a8) a8,?_⟩
   refine⟨_,fun H=>j6.Z9 (.t a8) a8,?_⟩
   refine .inl (.inl ?_)
   refine⟨_,fun H=>j6.assign (.t a8) a8,?_⟩
   refine⟨⟨([],j2 [c8,c8]),a8⟩,?_⟩
   refine A6.alloc y6 fun b10 => ?_
   refine⟨⟨([_],j2 [c8,c8]),a8⟩,?_⟩
   refine A6.O5 y6 (.t rfl) (.t rfl) .z ?_
   refine⟨⟨([_],j2 [c8,c8]),a8⟩,?_⟩
   show D5 _ _ _ _ _ [] ((11,_)::(10,_)::(41,_)::(40,_)::(33,_)::(39,_)::(38,_)::(37,_)::(36,_)::(35,_)::(34,_)::_) _
   refine .q 4 hG ?_
   refine .bs a8 (by decide) fun b43 => ?_
   refine .q 8 hG ?_
   refine .D9 (α:=Nat×Value×List Tag×Tag×Bool) [(3,_),(4,_),(10,_)] (fun x R=>(11,.v x.2.2.2.2)::(12,.raw x.2.1)::(13,.v (x.1:Int))::R) (fun x => [(true,.own 26 x.2.1 x.2.2.1),(true,.ob (ptr b10 0) x.2.2.2.1),(true,.fz (ptr b5 0) (.p root)),(true,.fz (ptr b4 0) (.p a))]) (fun x=>x.1≤l.length∧x.2.2.1.length=x.1+1∧x.2.2.1.getLastD default=x.2.2.2.1∧(x.2.2.2.2=true→K8 (l9 a) root.Key ((D2 n l).take (x.1+1))=some (root.Key::x.2.2.1))∧(x.2.2.2.2=false→K8 (l9 a) root.Key (D2 n l)=none)) (fun x=>l.length - x.1) ((0,slc b43 0 1 1,[(l9 a root.Key (O4 n)).1],(l9 a root.Key (O4 n)).1,(l9 a root.Key (O4 n)).2)) (.c2 a8 a8 (.cons a8 (.nil _))) ?_ (.c2 a8 a8 (.c2 a8 a8 (.c2 a8 a8 (.nil _)))) (a8) fun x hF => ?_
   ·exact⟨Nat.zero_le _,a8,a8,b4m,b6x⟩
   obtain⟨i,w,s,t,o⟩:=x
   obtain⟨h1,h2,h3,h4,h5⟩:=hF
   dsimp only at h1 h2 h3 h4 h5 ⊢
   subst h3
   refine .q 11 hG ?_
   refine .cond (.t a8) (fun hc50 => ?_) (fun hc50 => ?_)
   ·refine .q 4 hG ?_
    have hlt:i < l.length∧o=true:=by simpa using hc50
    refine .a0r [[j1,j1,j1,j1],[j1,j0,j1,j1]] [[j1,j1,j1,j1],[j1,j1,j1,j1],[j1,j1,j1,j1],[j1,j1,j1,j1],[j1,j1,j1,j1],[j1,j1,j1,j1],[j1,j1,j1,j1],[j1,j1,j1,j1],[j1,j1,j1,j1],[j1,j1,j1,j1],[j1,j0,j1,j1],[],[j1,j0,j1,j1]] [] [] 1 (by kernel_rfl) 13 [[],[],[],[],[(56,2),(57,3)],[(58,4)],[(59,5)],[(54,0),(55,1),(60,6)],[(61,7)],[(53,8)],[(53,8)],[(62,9)],[(63,10)]] [11] rfl (by kernel_rfl) rfl (by kernel_rfl) rfl (by decide) (by simp) (fun p hp=>by cases hp) (by kernel_rfl) rfl ?_
    refine⟨_,fun H=>j6.G2 y7 (.t a8) a8,?_⟩
    refine⟨_,fun H=>j6.Q1 y6 (.t a8) (u7.app .z1) a8,?_⟩
    refine⟨_,fun H=>j6.move (.t a8) a8,?_⟩
    refine⟨_,fun H=>j6.move (.t a8) a8,?_⟩
    refine⟨_,fun H=>j6.idx a0C underlying24 (.t a8) (.t a8) (by omega) (by omega) a8,?_⟩
    refine⟨_,fun H=>j6.G2 a0C (.t a8) a8,?_⟩
    refine⟨_,fun H=>j6.o7 hG (a94 _) (.cons (.t a8) .nil) a8,?_⟩
    refine⟨_,fun H=>j6.o7 hG (a2X _ _ _) (.cons (.t a8) (.cons (.t a8) (.cons (.t a8) .nil))) a8,?_⟩
    refine⟨_,fun H=>j6.move (.t a8) a8,?_⟩
    refine⟨_,fun H=>j6.Z8 (.t a8) a8,?_⟩
    refine⟨_,fun H=>j6.Z9 (.t a8) a8,?_⟩
    refine .inl ?_
    refine⟨_,fun H=>j6.assign (.t a8) a8,?_⟩
    refine⟨a8,?_⟩
    refine⟨⟨j2 [c8,c8,c8,c8],a8⟩,fun Ys10 => ?_⟩
    refine A6.O5 y6 (.t rfl) (.t rfl) (u7.app (u7.app .z1)) ?_
    refine⟨[],_,a8,?_⟩
    refine⟨⟨j2 [c8,_,c8,c8],a8⟩,fun ws10 => ?_⟩
    refine⟨⟨j2 [c8,_,c8,c8],a8⟩,fun _ => ?_⟩
    show D5 _ _ _ _ _ [] ((11,_)::(63,_)::(62,_)::(53,_)::(61,_)::(60,_)::(59,_)::(58,_)::(57,_)::(56,_)::(55,_)::(54,_)::_) _
    refine .q 2 hG ?_
    refine .mv a8 (.p (.Q1 y6 (.t a8) .z1 (.h (.buildSlice (α:=(I7 32 UInt8)) y6 underlying54 (.cons (.t a8) .nil) a8 (by decide) fun b66 => .h (.append c1Y (.inl ⟨_,underlying54⟩) a8 .z1 (.own a8 .z) (by simp<;>omega) (by simp<;>omega) (fun w67 => .ag a8 ?_) a8)))))
    refine .drop ?_
    refine .q 3 hG ?_
    refine .ad (by omega) (by omega) ?_
    refine .q 2 hG ?_
    refine⟨(i+1,w67,s ++ [(l9 a (s.getLastD default) (Y5 l[i])).1],(l9 a (s.getLastD default) (Y5 l[i])).1,(l9 a (s.getLastD default) (Y5 l[i])).2),.c2 rfl rfl (.c2 rfl rfl (.c2 rfl rfl (.nil _))),rfl,?_,by dsimp only;omega⟩
    exact⟨by dsimp only;omega,by simp;omega,by simp,fun h=>b6y hlt.1 (by omega) (h4 hlt.2) h,fun h=>b8y hlt.1 (by omega) (h4 hlt.2) h⟩
   ·refine .q 7 hG ?_
    refine .cond (.t a8) (fun hc69 => ?_) (fun hc69 => ?_)
    ·refine .q 6 hG ?_
     refine .e2 a8 a8 a8 ?_
     rw [b2o (a0S hc29) (by simpa using hc32) (h5 (by simpa using hc69))]
    ·refine .q 2 hG ?_
     refine .u0 hC .z (.as 12 a8 .z ?_)
     refine .q 6 hG ?_
     refine .e2 a8 a8 a8 ?_
     obtain rfl:o=true:=by simpa using hc69
     have hx:l.length≤i:=by simpa using hc50
     have h6:=h4 rfl
     rw [List.take_of_length_le (by rw [a0E];omega)] at h6
     rw [b5B (a0S hc29) (by simpa using hc32) h6];rfl
theorem c0t (a:D0) (l:List Tag) (hl:l.length≤100000):u1 gl prog 40 [.v a,.v l] (fun x=>x = .t2 (.v (a0e a l).1) (.v (a0e a l).2)):=by
 refine u1.jn func40 (by kernel_rfl) 33 rfl fun C hC hG => ?_
 refine .q 3 hG fun b2 => ?_
 refine .q 4 hG ?_
 refine .A0 hC .z (.M1 2 a8 .z ?_)
 refine .q 1 hG ?_
 refine .p (.assign .raw ?_)
 refine .q 3 hG ?_
 refine .a1e 26 Tag ?_
 refine .q 6 hG ?_
 refine .D9 (α:=Nat×Value×List Tag) [(2,_),(11,_),(12,_)] (fun x R=>(6,.raw x.2.1)::(13,.v (x.1:Int))::R) (fun x => [(true,.own 26 x.2.1 x.2.2),(true,.fz (ptr b2 0) (.p a))]) (fun x=>x.1≤l.length∧a0d a (l.take x.1)=some x.2.2∧x.2.2.length=x.1) (fun x=>l.length - x.1) ((0,.slice none 0 0,[])) (.c2 a8 a8 (.cons a8 (.nil _))) ?_ (.c2 a8 a8 (.c2 a8 a8 (.cons a8 (.nil _)))) (a8) fun x hF => ?_
 ·exact⟨Nat.zero_le _,a8,a8⟩
 obtain⟨i,w,s⟩:=x
 obtain⟨h1,h2,h3⟩:=hF
 dsimp only at h1 h2 h3 ⊢
 refine .q 6 hG ⟨fun hc14 => ?_,fun hc14 => ?_⟩
 ·refine .q 5 hG ?_
  refine .ix (by omega) (by omega) ?_
  refine .q 2 hG fun b8 => ?_
  refine .q 3 hG ?_
  refine .A0 hC .z (.M1 8 a8 .z (.drop ?_))
  refine .q 3 hG ?_
  refine .bs a8 (by decide) fun b20 => .h (.same underlying86 underlying5 a8 .z (by simp) (.u0 hC .z (.as 21 a8 .z (.p (.o7 hG (a1C _ _ _) (.cons (.t a8) (.cons (.t a8) (.cons (.t a8) .nil))) ?_)))))
  refine .q 4 hG fun b9 => ?_
  refine .q 5 hG ?_
  refine .A0 hC .z (.M1 9 a8 .z (.drop (.drop ?_)))
  refine .q 4 hG ?_
  refine .cond (.t a8) (fun hc26 => ?_) (fun hc26 => ?_)
  ·refine .q 6 hG ?_
   refine .e2 a8 a8 a8 ?_
   have e:a0d a l=none:=a9X (i:=i) (by omega) (by simpa [E9] using hc26)
   unfold a0e
   rw [e]
  ·refine .q 4 hG ?_
   refine .bs a8 (by decide) fun b29 => ?_
   refine .ap (by simp<;>omega) (by simp<;>omega) fun w30 => ?_
   refine .q 1 hG ?_
   refine .drop ?_
   refine .q 2 hG ?_
   refine .ad (by omega) (by omega) ?_
   refine .q 2 hG ?_
   refine⟨(i+1,_,_),.c2 rfl rfl (.c2 rfl rfl (.cons rfl (.nil _))),rfl,?_,by dsimp only;omega⟩
   exact⟨by dsimp only;omega,a8N (i:=i) (by omega) h2 (by simpa [E9] using hc26),by simp;omega⟩
 ·refine .q 2 hG ?_
  refine .u0 hC .z (.as 6 a8 .z ?_)
  refine .q 6 hG ?_
  refine .e2 a8 a8 a8 ?_
  rw [List.take_of_length_le (by omega)] at h2
  unfold a0e
  rw [h2]
theorem b8E (a:D0) (l:List Tag) (hl:l.length≤100000):u1 gl prog 48 [.v a,.v l] (fun x=>x = .t2 (.v (a0e a l).1) (.v (a0e a l).2)):=by
 refine u1.jn func48 (by kernel_rfl) 34 rfl fun C hC hG => ?_
 refine .q 3 hG fun b2 => ?_
 refine .q 4 hG ?_
 refine .A0 hC .z (.M1 2 a8 .z (.T7 1 a8 fun hl1 => ?_))
 refine .q 1 hG ?_
 refine .p (.assign .raw ?_)
 refine .q 3 hG ?_
 refine .a1e 26 Tag ?_
 refine .q 4 hG ?_
 refine .D9 (α:=Nat×Value×List Tag) [(1,_),(2,_)] (fun x R=>(6,.raw x.2.1)::(7,.v (x.1:Int))::R) (fun x => [(true,.own 26 x.2.1 x.2.2),(true,.fz (ptr b2 0) (.p a))]) (fun x=>x.1≤l.length∧a0d a (l.take x.1)=some x.2.2∧x.2.2.length=x.1) (fun x=>l.length - x.1) ((0,.slice none 0 0,[])) (.c2 a8 a8 (.nil _)) ?_ (.c2 a8 a8 (.c2 a8 a8 (.nil _))) (a8) fun x hF => ?_
 ·exact⟨Nat.zero_le _,a8,a8⟩
 obtain⟨i,w,s⟩:=x
 obtain⟨h1,h2,h3⟩:=hF
 dsimp only at h1 h2 h3 ⊢
 refine .q 9 hG ⟨fun hc13 => ?_,fun hc13 => ?_⟩
 ·refine .q 4 hG ?_
  refine .a0r [[j1,j1],[j1,j1],[j1,j1],[j1,j1],[j1,j1]] [[j1,j1],[j1,j1],[j1,j1],[j1,j1],[j1,j1],[],[],[],[j1,j1],[j1,j1],[j1,j1],[],[],[j1,j1]] [[],[],[],[8,9,10,13],[]] [(11,(⟨(I7 32 UInt8),inferInstance,default⟩:AT))] 3 (by kernel_rfl) 14 [[],[],[],[(18,1),(19,2)],[(20,3)],[],[(22,5)],[(17,0),(21,4),(23,6)],[(24,7)],[(16,8)],[(16,8)],[],[(8,11),(25,9)],[(26,10)]] [5,6,7,12] rfl (by kernel_rfl) rfl (by kernel_rfl) rfl (by decide) (by simp) (List.forall_mem_cons.2 ⟨fun o ho=>by obtain rfl:=Option.some.inj (show some _=some o from ho);exact⟨rfl,fun _ _=>A6.alloc y6 fun b=>⟨b,rfl,rfl⟩⟩,(fun p hp=>by cases hp)⟩) (by kernel_rfl) rfl ?_
  refine⟨_,fun H=>j6.G2 y7 (.t a8) a8,?_⟩
  refine⟨_,fun H=>j6.move (.t a8) a8,?_⟩
  refine⟨_,fun H=>j6.move (.t a8) a8,?_⟩
  refine⟨_,fun H=>j6.idx y6 underlying54 (.t a8) (.t a8) (by omega) (by omega) a8,?_⟩
  refine⟨_,fun H=>j6.G2 y6 (.t a8) a8,?_⟩
  refine .inl (.inl (.inl (.inl (.inl (.inl (.inl (.inl (.inl ?_))))))))
  refine⟨a8,?_⟩
  refine⟨⟨j2 [c8,c8],a8⟩,fun Ys5 => ?_⟩
  refine A6.buildSlice (α:=UInt8) ty5 underlying86 (.cons (.u8 110 rfl) (.cons (.u8 111 rfl) (.cons (.u8 100 rfl) (.cons (.u8 101 rfl) .nil)))) rfl (by decide) fun b22 => ?_
  refine⟨[_],_,a8,?_⟩
  refine⟨⟨j2 [c8,c8],a8⟩,fun Ys5 => ?_⟩
  refine A6.same underlying86 underlying5 rfl .z (by simp) ?_
  refine⟨[_],_,a8,?_⟩
  refine⟨⟨j2 [c8,c8],a8⟩,fun Ys5 => ?_⟩
  refine A6.ofP (j6.b7K hG (a2X _ _ _) (.cons (.e (.t rfl)) (.cons (.e (.t rfl)) (.cons (.own rfl .z) .nil))) (by first|exact .v|exact .t2 .v .v|exact .t3 .v .v .v) ?_)
  refine⟨[_],_,a8,?_⟩
  refine⟨_,fun H=>j6.move (.t a8) a8,?_⟩
  refine⟨_,fun H=>j6.Z8 (.t a8) a8,?_⟩
  refine⟨_,fun H=>j6.Z9 (.t a8) a8,?_⟩
  refine⟨_,fun H=>j6.assign (.t a8) a8,?_⟩
  refine⟨⟨j2 [c8,c8],a8⟩,fun ws5 => ?_⟩
  refine⟨⟨j2 [c8,c8],a8⟩,fun Ys5 => ?_⟩
  refine A6.O5 y6 (.t rfl) (.t rfl) .z1 ?_
  refine⟨[_,_],_,a8,?_⟩
  refine⟨⟨j2 [c8,c8],a8⟩,fun _ => ?_⟩
  show D5 _ _ _ _ _ [] ((9,_)::(8,_)::(26,_)::(25,_)::(16,_)::(24,_)::(23,_)::(22,_)::(21,_)::(20,_)::(19,_)::(18,_)::(17,_)::_) _
  refine .q 3 hG ?_
  refine .A0 hC .z1 (.M1 8 a8 .z1 (.drop (.drop ?_)))
  refine .q 4 hG ?_
  refine .cond (.t a8) (fun hc28 => ?_) (fun hc28 => ?_)
  ·refine .q 6 hG ?_
   refine .e2 a8 a8 a8 ?_
   have e:a0d a l=none:=a9X (i:=i) (by omega) (by simpa [E9] using hc28)
   unfold a0e
   rw [e]
  ·refine .q 4 hG ?_
   refine .bs a8 (by decide) fun b31 => .h (.append c1Y (.inl ⟨_,underlying54⟩) a8 .z1 (.own a8 .z) (by simp<;>omega) (by simp<;>omega) (fun w32 => .ag a8 ?_) a8)
   refine .drop ?_
   refine .q 3 hG ?_
   refine .ad (by omega) (by omega) ?_
   refine .q 2 hG ?_
   refine⟨(i+1,_,_),.c2 rfl rfl (.c2 rfl rfl (.nil _)),rfl,?_,by dsimp only;omega⟩
   exact⟨by dsimp only;omega,a8N (i:=i) (by omega) h2 (by simpa [E9] using hc28),by simp;omega⟩
 ·refine .q 2 hG ?_
  refine .u0 hC .z (.as 6 a8 .z ?_)
  refine .q 6 hG ?_
  refine .e2 a8 a8 a8 ?_
  rw [List.take_of_length_le (by omega)] at h2
  unfold a0e
  rw [h2]
theorem b8F (a:D0) (k:Tag) (m:List UInt8):u1 gl prog 70 [.v a,.v k,.v m] (fun r=>r = .t3 (.v (a5v a k m).1) (.v (a5v a k m).2.1) (.v (a5v a k m).2.2)):=by
 refine u1.jn func70 (by kernel_rfl) 40 rfl fun C hC hG => ?_
 refine .q 3 hG fun b3 => ?_
 refine .q 1 hG fun b4 => ?_
 refine .q 1 hG fun b6 => ?_
 refine .q 1 hG fun b7 => ?_
 refine .q 7 hG ?_
 refine .p (.o7 hG (a5N _ _ _) (.cons (.t a8) (.cons (.t a8) (.cons (.t a8) .nil))) ?_)
 refine .q 5 hG fun b9 => ?_
 refine .q 11 hG ⟨fun hc20 => ?_,fun hc20 => ?_⟩
 ·refine .q 2 hG ?_
  refine .p (.bS0 (α:=m5) a8 y7 a1r (.p (.O0 (default:(I7 32 UInt8)) y6 M0 .nil a8 ?_)))
  refine .q 6 hG ?_
  refine⟨_,.r3 a8 (.cell y7 a8 .z2) (.cell y6 a8 .z1) (.tmp a8),?_⟩
  unfold a5v
  rw [Q3 hc20]
 ·refine .q 5 hG ?_
  refine .bs a8 (by decide) fun b27 => .h (.same underlying86 underlying5 a8 .z (by simp) (.u0 hC .z (.as 28 a8 .z (.p (.o7 hG (a5N _ _ _) (.cons (.t a8) (.cons (.t a8) (.cons (.t a8) .nil))) ?_)))))
  refine .q 14 hG ⟨fun hc34 => ?_,fun hc34 => ?_⟩
  ·refine .q 2 hG ?_
   refine .p (.bS0 (α:=m5) a8 y7 a1r (.p (.O0 (default:(I7 32 UInt8)) y6 M0 .nil a8 ?_)))
   refine .q 6 hG ?_
   refine⟨_,.r3 a8 (.cell y7 a8 .z3) (.cell y6 a8 .z2) (.tmp a8),?_⟩
   unfold a5v
   rw [F8 (Decidable.not_not.1 hc20),Q3 (r:=G8 (G8 a k m).1 (G8 a k m).2.1 E9) hc34];rfl
  ·refine .q 2 hG ?_
   refine .D7 [j1,j1,j0,j0,j1,j1] (by kernel_rfl) 5 [[],[],[(38,0)],[(39,1)],[]] [2,3] a8 (by kernel_rfl) a8 (by kernel_rfl) (by decide) ?_
   refine⟨_,fun H=>j6.Q1 y7 (.t a8) (u7.app .z5) a8,?_⟩
   refine⟨_,fun H=>j6.Q1 y6 (.t a8) (u7.app .z1) a8,?_⟩
   refine .inl (.inl ?_)
   refine⟨_,fun H=>j6.assign (.i a8) a8,?_⟩
   refine⟨⟨([],j2 [c8,c8,_,_,c8,c8]),a8⟩,?_⟩
   refine A6.O5 y7 (.t rfl) (.t rfl) .z3 ?_
   refine⟨⟨([],j2 [c8,c8,_,_,c8,c8]),a8⟩,?_⟩
   refine A6.O5 y6 (.t rfl) (.t rfl) .z2 ?_
   refine⟨⟨([],j2 [c8,c8,_,_,c8,c8]),a8⟩,?_⟩
   show D5 _ _ _ _ _ [] ((8,_)::(39,_)::(38,_)::_) _
   refine .q 2 hG ?_
   refine⟨_,.r3 a8 (.cell y7 a8 .z3) (.cell y6 a8 .z2) (.tmp a8),?_⟩
   unfold a5v
   rw [F8 (Decidable.not_not.1 hc20),F8 (r:=G8 (G8 a k m).1 (G8 a k m).2.1 E9) (Decidable.not_not.1 hc34)];rfl
theorem b8G (a:D0) (root:u4) (n:Int):u1 gl prog 28 [.v a,.v root,.v n] (fun r=>r = .t3 (.v (a7v a root n).1) (.v (a7v a root n).2.1) (.v (a7v a root n).2.2)):=by
 refine u1.jn func28 (by kernel_rfl) 50 rfl fun C hC hG => ?_
 refine .q 3 hG fun b3 => ?_
 refine .q 1 hG fun b4 => ?_
 refine .q 1 hG fun b6 => ?_
 refine .q 1 hG fun b7 => ?_
 refine .q 22 hG ?_
 refine .cond (.t a8) (fun hc26 => ?_) (fun hc26 => ?_)
 ·refine .q 2 hG ?_
  refine .p (.bS0 (α:=m5) a8 y7 a1r (.p (.bS0 (α:=x8) a8 U6 b0m ?_)))
  refine .q 5 hG ?_
  refine⟨_,.r3 a8 (.cell y7 a8 .z1) (.cell U6 a8 .z) (.tmp a8),?_⟩
  unfold a7v
  rw [if_pos (a9W hc26)]
 ·refine .q 2 hG ?_
  have hr:=a4K (a0S hc26)
  refine .a0r [[j1,j1,j1,j1],[j1,j1,j1,j1],[j1,j1,j1,j0],[j1,j1,j1,j0]] [[j1,j1,j1,j1],[j1,j1,j1,j1],[j1,j1,j1,j1],[j1,j1,j1,j1],[j1,j1,j1,j1],[j1,j1,j1,j1],[j1,j1,j1,j1],[j1,j1,j1,j1],[j1,j1,j1,j0],[j1,j1,j1,j0],[],[],[],[j1,j1,j1,j0]] [] [] 3 (by kernel_rfl) 14 [[],[],[(31,1)],[],[(33,3)],[(30,0),(32,2),(34,4)],[(35,5)],[(29,6)],[(29,6)],[(29,6)],[],[(36,7)],[(9,10),(37,8)],[(38,9)]] [10,11,12] rfl (by kernel_rfl) rfl (by kernel_rfl) rfl (by decide) (by simp) (fun p hp=>by cases hp) (by kernel_rfl) rfl ?_
  refine⟨_,fun H=>j6.Q1 y7 (.t a8) (u7.app .z3) a8,?_⟩
  refine⟨_,fun H=>j6.B1 u4.l1 b3x a8 (.t a8) a8,?_⟩
  refine⟨_,fun H=>j6.ldF (fun x=>x.Key) y6 (.t a8) (u7.app .z2) (fun _=>a8) a8,?_⟩
  refine⟨_,fun H=>j6.move (.t a8) a8,?_⟩
  refine⟨_,fun H=>j6.o7 hG (a8Q _ (by omega) (by omega)) (.cons (.t a8) .nil) a8,?_⟩
  refine⟨_,fun H=>j6.o7 hG (b8F _ _ _) (.cons (.t a8) (.cons (.t a8) (.cons (.t a8) .nil))) a8,?_⟩
  refine⟨_,fun H=>j6.move (.t a8) a8,?_⟩
  refine⟨_,fun H=>j6.O7 (.t a8) a8,?_⟩
  refine⟨_,fun H=>j6.O8 (.t a8) a8,?_⟩
  refine⟨_,fun H=>j6.O9 (.t a8) a8,?_⟩
  refine .inl (.inl (.inl ?_))
  refine⟨_,fun H=>j6.assign (.t a8) a8,?_⟩
  refine⟨a8,?_⟩
  refine⟨⟨j2 [c8,c8,c8,c8],a8⟩,fun Ys3 => ?_⟩
  refine A6.alloc y6 fun b9 => ?_
  refine⟨[_],_,a8,?_⟩
  refine⟨⟨j2 [c8,c8,c8,c8],a8⟩,fun Ys3 => ?_⟩
  refine A6.O5 y7 (.t rfl) (.t rfl) (.s (u7.app (u7.app .z3))) ?_
  refine⟨[_],_,a8,?_⟩
  refine⟨⟨j2 [c8,c8,c8,_],a8⟩,fun Ys3 => ?_⟩
  refine A6.O5 y6 (.t rfl) (.t rfl) .z ?_
  refine⟨[_],_,a8,?_⟩
  refine⟨⟨j2 [c8,c8,c8,_],a8⟩,fun ws3 => ?_⟩
  refine⟨⟨j2 [c8,c8,c8,_],a8⟩,fun _ => ?_⟩
  show D5 _ _ _ _ _ [] ((10,_)::(9,_)::(38,_)::(37,_)::(36,_)::(29,_)::(35,_)::(34,_)::(33,_)::(32,_)::(31,_)::(30,_)::_) _
  refine .q 8 hG ⟨fun hc40 => ?_,fun hc40 => ?_⟩
  ·refine .q 2 hG ?_
   refine .p (.bS0 (α:=m5) a8 y7 a1r (.p (.bS0 (α:=x8) a8 U6 b0m (.mv a8 (.n (.O5 y7 (.t a8) (.t a8) .z2 (.n (.O5 U6 (.t a8) (.t a8) .z1 (.ag a8 ?_)))))))))
   refine .q 2 hG ?_
   refine⟨_,.r3 a8 (.cell y7 a8 .z2) (.cell U6 a8 .z1) (.tmp a8),?_⟩
   unfold a7v
   rw [if_neg (by rw [a0S hc26];decide),Q3 hc40]
  ·refine .q 2 hG ?_
   refine .D7 [j1,j0,j0,j1,j1] (by kernel_rfl) 9 [[],[],[(45,1)],[],[],[(46,2),(47,3),(48,4)],[(44,0)],[(49,5)],[]] [6,7] a8 (by kernel_rfl) a8 (by kernel_rfl) (by decide) ?_
   refine⟨_,fun H=>j6.Q1 y7 (.t a8) (u7.app .z4) a8,?_⟩
   refine⟨_,fun H=>j6.B1 u4.l0 b7y a8 (.t a8) a8,?_⟩
   refine⟨_,fun H=>j6.ldF (fun x=>x.Number) R6 (.t a8) (u7.app .z3) (fun _=>a8) a8,?_⟩
   refine⟨_,fun H=>j6.move (.t a8) a8,?_⟩
   refine⟨_,fun H=>j6.Q1 y6 (.t a8) (u7.app .z) a8,?_⟩
   refine⟨_,fun H=>j6.bS3 x8.l0 x8.l1 x8.l3 a8 U6 b0m (fun c0 c1 c3=>(⟨c0,c1,[],c3⟩:x8)) (fun _ _ _=>a8) a8 a8 a8 a8 (.t a8) (.t a8) (.t a8) a8,?_⟩
   refine .inl (.inl ?_)
   refine⟨_,fun H=>j6.assign (.i a8) a8,?_⟩
   refine⟨⟨([],j2 [c8,_,_,c8,c8]),a8⟩,?_⟩
   refine A6.O5 y7 (.t rfl) (.t rfl) .z2 ?_
   refine⟨⟨([],j2 [c8,_,_,c8,c8]),a8⟩,?_⟩
   refine A6.O5 U6 (.t rfl) (.t rfl) .z1 ?_
   refine⟨⟨([],j2 [c8,_,_,c8,c8]),a8⟩,?_⟩
   show D5 _ _ _ _ _ [] ((8,_)::(49,_)::(48,_)::(47,_)::(46,_)::(45,_)::(44,_)::_) _
   refine .q 2 hG ?_
   refine⟨_,.r3 a8 (.cell y7 a8 .z2) (.cell U6 a8 .z1) (.tmp a8),?_⟩
   unfold a7v
   rw [if_neg (by rw [a0S hc26];decide),F8 (Decidable.not_not.1 hc40)]
theorem a95 (t:B2):u1 gl prog 139 [.v t] (fun r=>r = .v (a0L t)):=by
 refine u1.jn func139 (by kernel_rfl) 18 rfl fun C hC hG => ?_
 refine .q 3 hG fun b1 => ?_
 refine .q 22 hG ?_
 refine .e1 a8 a8 ?_
 rfl
theorem a5X (a:D0) (d:Dis) (p:Pred) (hd:d.l8.length≤1000000):u1 gl prog 83 [.v a,.v d,.v p] (fun r=>r = .t3 (.v (T5 a d p).1) (.v (T5 a d p).2.1) (.v (T5 a d p).2.2)):=by
 refine u1.jn func83 (by kernel_rfl) 54 rfl fun C hC hG => ?_
 refine .q 3 hG fun b3 => ?_
 refine .q 1 hG fun b4 => ?_
 refine .q 1 hG fun b5 => ?_
 refine .q 1 hG fun b6 => ?_
 refine .q 1 hG fun b7 => ?_
 refine .q 4 hG ?_
 refine .A0 hC .z2 (.M1 5 a8 .z2 ?_)
 refine .q 2 hG ?_
 refine .k hG (a1k _) ?_
 refine .q 2 hG ?_
 refine .cond (.t a8) (fun hc13 => ?_) (fun hc13 => ?_)
 ·refine .q 2 hG ?_
  refine .p (.bS0 (α:=m5) a8 y7 a1r (.p (.bS0 (α:=p6) a8 S9 a9y ?_)))
  refine .q 5 hG ?_
  refine⟨_,.r3 a8 (.cell y7 a8 .z1) (.cell S9 a8 .z) (.tmp a8),?_⟩
  unfold T5
  rw [if_pos (by simpa using hc13)]
 ·refine .q 9 hG ⟨fun hc18 => ?_,fun hc18 => ?_⟩
  ·refine .q 2 hG ?_
   refine .p (.bS0 (α:=m5) a8 y7 a1r (.p (.bS0 (α:=p6) a8 S9 a9y ?_)))
   refine .q 5 hG ?_
   refine⟨_,.r3 a8 (.cell y7 a8 .z1) (.cell S9 a8 .z) (.tmp a8),?_⟩
   unfold T5
   rw [if_neg (by simpa using hc13),if_pos hc18]
  ·refine .q 10 hG ⟨fun hc24 => ?_,fun hc24 => ?_⟩
   ·refine .q 2 hG ?_
    refine .p (.bS0 (α:=m5) a8 y7 a1r (.p (.bS0 (α:=p6) a8 S9 a9y ?_)))
    refine .q 5 hG ?_
    refine⟨_,.r3 a8 (.cell y7 a8 .z1) (.cell S9 a8 .z) (.tmp a8),?_⟩
    unfold T5
    rw [if_neg (by simpa using hc13),if_neg hc18,if_pos (by omega)]
   ·refine .q 2 hG ?_
    refine .a0r [[j1,j1,j1,j1,j1],[j1,j1,j1,j1,j1],[j1,j1,j1,j1,j0],[j1,j1,j1,j1,j0]] [[j1,j1,j1,j1,j1],[j1,j1,j1,j1,j1],[j1,j1,j1,j1,j1],[j1,j1,j1,j1,j1],[j1,j1,j1,j1,j1],[j1,j1,j1,j1,j1],[j1,j1,j1,j1,j1],[j1,j1,j1,j1,j1],[j1,j1,j1,j1,j0],[j1,j1,j1,j1,j0],[],[],[],[j1,j1,j1,j1,j0]] [] [] 3 (by kernel_rfl) 14 [[],[],[(29,1)],[],[(31,3)],[(28,0),(30,2),(32,4)],[(33,5)],[(27,6)],[(27,6)],[(27,6)],[],[(34,7)],[(9,10),(35,8)],[(36,9)]] [10,11,12] rfl (by kernel_rfl) rfl (by kernel_rfl) rfl (by decide) (by simp) (fun p hp=>by cases hp) (by kernel_rfl) rfl ?_
    refine⟨_,fun H=>j6.Q1 y7 (.t a8) (u7.app .z4) a8,?_⟩
    refine⟨_,fun H=>j6.B1 p6.l2 b0p a8 (.t a8) a8,?_⟩
    refine⟨_,fun H=>j6.ldF (fun x=>x.Tag) y6 (.t a8) (u7.app .z3) (fun _=>a8) a8,?_⟩
    refine⟨_,fun H=>j6.G2 T1 (.t a8) a8,?_⟩
    refine⟨_,fun H=>j6.o7 hG (a8S _) (.cons (.t a8) .nil) a8,?_⟩
    refine⟨_,fun H=>j6.o7 hG (a5N _ _ _) (.cons (.t a8) (.cons (.t a8) (.cons (.t a8) .nil))) a8,?_⟩
    refine⟨_,fun H=>j6.move (.t a8) a8,?_⟩
    refine⟨_,fun H=>j6.O7 (.t a8) a8,?_⟩
    refine⟨_,fun H=>j6.O8 (.t a8) a8,?_⟩
    refine⟨_,fun H=>j6.O9 (.t a8) a8,?_⟩
    refine .inl (.inl (.inl ?_))
    refine⟨_,fun H=>j6.assign (.t a8) a8,?_⟩
    refine⟨a8,?_⟩
    refine⟨⟨j2 [c8,c8,c8,c8,c8],a8⟩,fun Ys7 => ?_⟩
    refine A6.alloc y6 fun b9 => ?_
    refine⟨[_],_,a8,?_⟩
    refine⟨⟨j2 [c8,c8,c8,c8,c8],a8⟩,fun Ys7 => ?_⟩
    refine A6.O5 y7 (.t rfl) (.t rfl) (.s (u7.app (u7.app .z4))) ?_
    refine⟨[_],_,a8,?_⟩
    refine⟨⟨j2 [c8,c8,c8,c8,_],a8⟩,fun Ys7 => ?_⟩
    refine A6.O5 y6 (.t rfl) (.t rfl) .z ?_
    refine⟨[_],_,a8,?_⟩
    refine⟨⟨j2 [c8,c8,c8,c8,_],a8⟩,fun ws7 => ?_⟩
    refine⟨⟨j2 [c8,c8,c8,c8,_],a8⟩,fun _ => ?_⟩
    show D5 _ _ _ _ _ [] ((10,_)::(9,_)::(36,_)::(35,_)::(34,_)::(27,_)::(33,_)::(32,_)::(31,_)::(30,_)::(29,_)::(28,_)::_) _
    refine .q 8 hG ⟨fun hc38 => ?_,fun hc38 => ?_⟩
    ·refine .q 2 hG ?_
     refine .p (.bS0 (α:=m5) a8 y7 a1r (.p (.bS0 (α:=p6) a8 S9 a9y (.mv a8 (.n (.O5 y7 (.t a8) (.t a8) .z2 (.n (.O5 S9 (.t a8) (.t a8) .z1 (.ag a8 ?_)))))))))
     refine .q 2 hG ?_
     refine⟨_,.r3 a8 (.cell y7 a8 .z2) (.cell S9 a8 .z1) (.tmp a8),?_⟩
     unfold T5
     rw [if_neg (by simpa using hc13),if_neg hc18,if_neg (by omega),Q3 hc38]
    ·refine .q 2 hG ?_
     refine .a0r [[j1,j1,j1,j1,j1,j1],[j1,j1,j1,j1,j1,j1],[j1,j1,j1,j1,j1,j1],[j1,j1,j1,j1,j1,j1],[j1,j1,j1,j1,j0,j1],[j1,j1,j1,j1,j0,j1]] [[],[j1,j1,j1,j1,j1,j1],[j1,j1,j1,j1,j1,j1],[],[j1,j1,j1,j1,j1,j1],[j1,j1,j1,j1,j1,j1],[],[j1,j1,j1,j1,j0,j1],[j1,j1,j1,j1,j1,j1],[],[j1,j1,j1,j1,j0,j1],[]] [] [] 5 (by kernel_rfl) 12 [[],[],[(43,1)],[(42,0),(44,2)],[],[(46,4)],[(45,3),(47,5)],[],[],[(50,8),(48,6)],[],[(51,10),(49,7)]] [0,3,6,9,11] rfl (by kernel_rfl) rfl (by kernel_rfl) rfl (by decide) (by simp) (fun p hp=>by cases hp) (by kernel_rfl) rfl (.inl ?_)
     refine⟨_,fun H=>j6.B1 p6.l1 a6d a8 (.t a8) a8,?_⟩
     refine⟨_,fun H=>j6.ldF (fun x=>x.l8) a8B (.t a8) (u7.app .z4) (fun _=>a8) a8,?_⟩
     refine .inl ?_
     refine⟨_,fun H=>j6.G2 T1 (.t a8) a8,?_⟩
     refine⟨_,fun H=>j6.F1 (α:=j3) T1 underlying83 (.cons (.t a8) .nil) a8 (by decide) a8,?_⟩
     refine .inl ?_
     refine⟨_,fun H=>j6.Q1 y6 (.t a8) (u7.app .z) a8,?_⟩
     refine⟨_,fun H=>j6.B1 p6.l1 a6d a8 (.t a8) a8,?_⟩
     refine .inl ?_
     refine⟨_,fun H=>j6.B1 p6.l2 b0p a8 (.t a8) a8,?_⟩
     refine .inl ?_
     refine⟨a8,?_⟩
     refine⟨⟨j2 [c8,c8,c8,c8,c8,c8],a8⟩,fun Ys10 => ?_⟩
     refine A6.buildSlice (α:=j3) T1 underlying83 .nil rfl (by decide) fun b42 => ?_
     refine⟨[_],_,a8,?_⟩
     refine⟨⟨j2 [c8,c8,c8,c8,c8,c8],a8⟩,fun Ys10 => ?_⟩
     refine A6.append b8g (.inl ⟨_,underlying83⟩) rfl .z (.v (.t rfl)) (by simp<;>omega) (by simp<;>omega) (fun w45 => ?_) rfl
     refine⟨[_],_,a8,?_⟩
     refine⟨⟨j2 [c8,c8,c8,c8,c8,c8],a8⟩,fun Ys10 => ?_⟩
     refine A6.append b8g (.inl ⟨_,underlying83⟩) rfl .z (.v (.c rfl)) (by simp<;>omega) (by simp<;>omega) (fun w48 => ?_) rfl
     refine⟨[_],_,a8,?_⟩
     refine⟨⟨j2 [c8,c8,c8,c8,c8,c8],a8⟩,fun Ys10 => ?_⟩
     refine A6.u0 hC .z (A6.as 48 rfl .z (A6.stF (fun y x => { x with l8:=y }) a8B (.t rfl) (.t rfl) (.s (u7.app (u7.app .z4))) (fun _ _=>rfl) ?_))
     refine⟨[_],_,a8,?_⟩
     refine⟨⟨j2 [c8,c8,c8,c8,_,c8],a8⟩,fun Ys10 => ?_⟩
     refine A6.stF (fun y x => { x with Tag:=y }) y6 (.t rfl) (.t rfl) (.s (u7.app (u7.app .z4))) (fun _ _=>rfl) ?_
     refine⟨[_],_,a8,?_⟩
     refine⟨⟨j2 [c8,c8,c8,c8,_,c8],a8⟩,fun ws10 => ?_⟩
     refine⟨⟨j2 [c8,c8,c8,c8,_,c8],a8⟩,fun _ => ?_⟩
     show D5 _ _ _ _ _ [] ((51,_)::(50,_)::(49,_)::(48,_)::(47,_)::(46,_)::(45,_)::(44,_)::(43,_)::(42,_)::_) _
     refine .q 2 hG ?_
     refine .D7 [j1,j1,j0,j0,j1,j1,j1] (by kernel_rfl) 5 [[],[],[(52,0)],[(53,1)],[]] [2,3] a8 (by kernel_rfl) a8 (by kernel_rfl) (by decide) ?_
     refine⟨_,fun H=>j6.Q1 y7 (.t a8) (u7.app .z6) a8,?_⟩
     refine⟨_,fun H=>j6.Q1 S9 (.t a8) (u7.app .z5) a8,?_⟩
     refine .inl (.inl ?_)
     refine⟨_,fun H=>j6.assign (.i a8) a8,?_⟩
     refine⟨⟨([],j2 [c8,c8,_,_,c8,c8,c8]),a8⟩,?_⟩
     refine A6.O5 y7 (.t rfl) (.t rfl) .z3 ?_
     refine⟨⟨([],j2 [c8,c8,_,_,c8,c8,c8]),a8⟩,?_⟩
     refine A6.O5 S9 (.t rfl) (.t rfl) .z2 ?_
     refine⟨⟨([],j2 [c8,c8,_,_,c8,c8,c8]),a8⟩,?_⟩
     show D5 _ _ _ _ _ [] ((8,_)::(53,_)::(52,_)::_) _
     refine .q 2 hG ?_
     refine⟨_,.r3 a8 (.cell y7 a8 .z3) (.cell S9 a8 .z2) (.tmp a8),?_⟩
     unfold T5
     rw [if_neg (by simpa using hc13),if_neg hc18,if_neg (by omega),F8 (Decidable.not_not.1 hc38)];rfl
theorem c2c (a:D0) (d:Dis) (leaf:Tag) (r:Rq):u1 gl prog 74 [.v a,.v d,.v leaf,.v r] (fun x=>x = .t3 (.v (a2L a d leaf r).1) (.v (a2L a d leaf r).2.1) (.v (a2L a d leaf r).2.2)):=by
 refine u1.jn func74 (by kernel_rfl) 41 rfl fun C hC hG => ?_
 refine .q 3 hG fun b4 => ?_
 refine .q 1 hG fun b5 => ?_
 refine .q 1 hG fun b6 => ?_
 refine .q 1 hG fun b7 => ?_
 refine .q 1 hG fun b8 => ?_
 refine .q 1 hG fun b9 => ?_
 refine .q 6 hG ?_
 refine .k hG (a7Y _) ?_
 refine .q 2 hG ?_
 refine .cond (.t a8) (fun hc15 => ?_) (fun hc15 => ?_)
 ·refine .q 2 hG ?_
  refine .p (.bS0 (α:=m5) a8 y7 a1r (.p (.bS0 (α:=p8) a8 a1f b6d ?_)))
  refine .q 5 hG ?_
  refine⟨_,.r3 a8 (.cell y7 a8 .z1) (.cell a1f a8 .z) (.tmp a8),?_⟩
  unfold a2L
  rw [if_pos (by simpa using hc15)]
 ·refine .q 2 hG ?_
  refine .a0r [[j1,j1,j1,j1,j1,j1],[j1,j1,j1,j1,j1,j1],[j1,j1,j1,j1,j1,j0],[j1,j1,j1,j1,j1,j0]] [[j1,j1,j1,j1,j1,j1],[j1,j1,j1,j1,j1,j1],[j1,j1,j1,j1,j1,j1],[j1,j1,j1,j1,j1,j1],[j1,j1,j1,j1,j1,j1],[j1,j1,j1,j1,j1,j1],[j1,j1,j1,j1,j1,j1],[j1,j1,j1,j1,j1,j1],[j1,j1,j1,j1,j1,j1],[j1,j1,j1,j1,j1,j0],[j1,j1,j1,j1,j1,j0],[],[],[],[j1,j1,j1,j1,j1,j0]] [] [] 3 (by kernel_rfl) 15 [[],[],[(20,1)],[],[],[(22,3),(23,4)],[(19,0),(21,2),(24,5)],[(25,6)],[(18,7)],[(18,7)],[(18,7)],[],[(26,8)],[(11,11),(27,9)],[(28,10)]] [11,12,13] rfl (by kernel_rfl) rfl (by kernel_rfl) rfl (by decide) (by simp) (fun p hp=>by cases hp) (by kernel_rfl) rfl ?_
  refine⟨_,fun H=>j6.Q1 y7 (.t a8) (u7.app .z5) a8,?_⟩
  refine⟨_,fun H=>j6.B1 p6.l2 b0p a8 (.t a8) a8,?_⟩
  refine⟨_,fun H=>j6.ldF (fun x=>x.Tag) y6 (.t a8) (u7.app .z4) (fun _=>a8) a8,?_⟩
  refine⟨_,fun H=>j6.Q1 y6 (.t a8) (u7.app .z3) a8,?_⟩
  refine⟨_,fun H=>j6.Q1 a6W (.t a8) (u7.app .z2) a8,?_⟩
  refine⟨_,fun H=>j6.o7 hG (a8T _ _ (by simpa using ‹(!S2 r)=false›)) (.cons (.t a8) (.cons (.t a8) .nil)) a8,?_⟩
  refine⟨_,fun H=>j6.o7 hG (a5N _ _ _) (.cons (.t a8) (.cons (.t a8) (.cons (.t a8) .nil))) a8,?_⟩
  refine⟨_,fun H=>j6.move (.t a8) a8,?_⟩
  refine⟨_,fun H=>j6.O7 (.t a8) a8,?_⟩
  refine⟨_,fun H=>j6.O8 (.t a8) a8,?_⟩
  refine⟨_,fun H=>j6.O9 (.t a8) a8,?_⟩
  refine .inl (.inl (.inl ?_))
  refine⟨_,fun H=>j6.assign (.t a8) a8,?_⟩
  refine⟨a8,?_⟩
  refine⟨⟨j2 [c8,c8,c8,c8,c8,c8],a8⟩,fun Ys3 => ?_⟩
  refine A6.alloc y6 fun b11 => ?_
  refine⟨[_],_,a8,?_⟩
  refine⟨⟨j2 [c8,c8,c8,c8,c8,c8],a8⟩,fun Ys3 => ?_⟩
  refine A6.O5 y7 (.t rfl) (.t rfl) (.s (u7.app (u7.app .z5))) ?_
  refine⟨[_],_,a8,?_⟩
  refine⟨⟨j2 [c8,c8,c8,c8,c8,_],a8⟩,fun Ys3 => ?_⟩
  refine A6.O5 y6 (.t rfl) (.t rfl) .z ?_
  refine⟨[_],_,a8,?_⟩
  refine⟨⟨j2 [c8,c8,c8,c8,c8,_],a8⟩,fun ws3 => ?_⟩
  refine⟨⟨j2 [c8,c8,c8,c8,c8,_],a8⟩,fun _ => ?_⟩
  show D5 _ _ _ _ _ [] ((12,_)::(11,_)::(28,_)::(27,_)::(26,_)::(18,_)::(25,_)::(24,_)::(23,_)::(22,_)::(21,_)::(20,_)::(19,_)::_) _
  refine .q 8 hG ⟨fun hc30 => ?_,fun hc30 => ?_⟩
  ·refine .q 2 hG ?_
   refine .p (.bS0 (α:=m5) a8 y7 a1r (.p (.bS0 (α:=p8) a8 a1f b6d (.mv a8 (.n (.O5 y7 (.t a8) (.t a8) .z2 (.n (.O5 a1f (.t a8) (.t a8) .z1 (.ag a8 ?_)))))))))
   refine .q 2 hG ?_
   refine⟨_,.r3 a8 (.cell y7 a8 .z2) (.cell a1f a8 .z1) (.tmp a8),?_⟩
   unfold a2L
   rw [if_neg (by simpa using hc15),Q3 hc30]
  ·refine .q 2 hG ?_
   refine .D7 [j1,j0,j0,j1,j1,j1,j1] (by kernel_rfl) 10 [[],[],[(35,1)],[],[(37,3)],[],[(36,2),(38,4),(39,5)],[(34,0)],[(40,6)],[]] [7,8] a8 (by kernel_rfl) a8 (by kernel_rfl) (by decide) ?_
   refine⟨_,fun H=>j6.Q1 y7 (.t a8) (u7.app .z6) a8,?_⟩
   refine⟨_,fun H=>j6.B1 p6.l0 b4O a8 (.t a8) a8,?_⟩
   refine⟨_,fun H=>j6.ldF (fun x=>x.j8) a2H (.t a8) (u7.app .z5) (fun _=>a8) a8,?_⟩
   refine⟨_,fun H=>j6.B1 p6.l1 a6d a8 (.t a8) a8,?_⟩
   refine⟨_,fun H=>j6.ldF (fun x=>x.l8) a8B (.t a8) (u7.app .z5) (fun _=>a8) a8,?_⟩
   refine⟨_,fun H=>j6.Q1 y6 (.t a8) (u7.app .z) a8,?_⟩
   refine⟨_,fun H=>j6.bS3 p8.l0 p8.l1 p8.l2 a8 a1f b6d (fun c0 c1 c2=>(⟨c0,c1,c2⟩:p8)) (fun _ _ _=>a8) a8 a8 a8 a8 (.t a8) (.t a8) (.t a8) a8,?_⟩
   refine .inl (.inl ?_)
   refine⟨_,fun H=>j6.assign (.i a8) a8,?_⟩
   refine⟨⟨([],j2 [c8,_,_,c8,c8,c8,c8]),a8⟩,?_⟩
   refine A6.O5 y7 (.t rfl) (.t rfl) .z2 ?_
   refine⟨⟨([],j2 [c8,_,_,c8,c8,c8,c8]),a8⟩,?_⟩
   refine A6.O5 a1f (.t rfl) (.t rfl) .z1 ?_
   refine⟨⟨([],j2 [c8,_,_,c8,c8,c8,c8]),a8⟩,?_⟩
   show D5 _ _ _ _ _ [] ((10,_)::(40,_)::(39,_)::(38,_)::(37,_)::(36,_)::(35,_)::(34,_)::_) _
   refine .q 2 hG ?_
   refine⟨_,.r3 a8 (.cell y7 a8 .z2) (.cell a1f a8 .z1) (.tmp a8),?_⟩
   unfold a2L
   rw [if_neg (by simpa using hc15),F8 (Decidable.not_not.1 hc30)]
theorem b4s {p:Pass} {c:Y0} {b:Bool} (h:(decide ((64:Int)≤(p.j9.length:Int))||(c.Q2&&decide (8≤a1l p.j9)))=b):a6w p c=b:=by
 rw [←h];unfold a6w;congr 1;exact decide_eq_decide.2 (by omega)
theorem c1n (a:D0) (p:Pass) (c:Y0) (hp:p.j9.length≤1000000):u1 gl prog 138 [.v a,.v p,.v c] (fun r=>r = .t3 (.v (a4h a p c).1) (.v (a4h a p c).2.1) (.v (a4h a p c).2.2)):=by
 refine u1.jn func138 (by kernel_rfl) 59 rfl fun C hC hG => ?_
 refine .q 3 hG fun b3 => ?_
 refine .q 1 hG fun b4 => ?_
 refine .q 1 hG fun b5 => ?_
 refine .q 1 hG fun b6 => ?_
 refine .q 1 hG fun b7 => ?_
 refine .q 4 hG ?_
 refine .A0 hC .z2 (.M1 5 a8 .z2 ?_)
 refine .q 2 hG ?_
 refine .k hG (a4N _) ?_
 refine .q 2 hG ?_
 refine .cond (.t a8) (fun hc13 => ?_) (fun hc13 => ?_)
 ·refine .q 2 hG ?_
  refine .p (.bS0 (α:=m5) a8 y7 a1r (.p (.bS0 (α:=x8) a8 U6 b0m ?_)))
  refine .q 5 hG ?_
  refine⟨_,.r3 a8 (.cell y7 a8 .z1) (.cell U6 a8 .z) (.tmp a8),?_⟩
  unfold a4h
  rw [if_pos (by simpa using hc13)]
 ·refine .q 11 hG ?_
  refine .goU 20 a8 (.t a8) (fun hg23 => .move (.q a8 hg23) a8) (.gn 23 a8 a8 (fun hc24 hg24 => .B1 x8.l2 b0l a8 (.t a8) a8) (.gn 23 a8 a8 (fun hc25 hg25 => .ldF (fun x=>x.j9) a8A (.ou a8 (Bool.and_eq_true_iff.2 ⟨hc25,beq_iff_eq.2 hg25⟩)) .z3 (fun _=>a8) a8) (.gn 23 a8 a8 (fun hc26 hg26 => .o7 hG (a9Z _ hp) (.cons (.ou a8 (Bool.and_eq_true_iff.2 ⟨hc26,beq_iff_eq.2 hg26⟩)) .nil) a8) (.gn 23 a8 a8 (fun hc27 hg27 => .geq (.ou a8 (Bool.and_eq_true_iff.2 ⟨hc27,beq_iff_eq.2 hg27⟩)) (.i a8) a8) (.go 20 a8 (.t a8) (fun hg28 => .S3 (.ou a8 (beq_iff_eq.2 hg28)) (fun hp=>(.ou a8 (Bool.and_eq_true_iff.2 ⟨(beq_iff_eq.2 hg28),beq_iff_eq.2 hp⟩))) a8) ?_)))))
  refine .q 2 hG ?_
  refine .cond (.t a8) (fun hc29 => ?_) (fun hc29 => ?_)
  ·refine .q 2 hG ?_
   refine .p (.bS0 (α:=m5) a8 y7 a1r (.p (.bS0 (α:=x8) a8 U6 b0m ?_)))
   refine .q 5 hG ?_
   refine⟨_,.r3 a8 (.cell y7 a8 .z1) (.cell U6 a8 .z) (.tmp a8),?_⟩
   unfold a4h
   rw [if_neg (by simpa using hc13),if_pos (b4s hc29)]
  ·refine .q 2 hG ?_
   refine .a0r [[j1,j1,j1,j1,j1],[j1,j1,j1,j1,j1],[j1,j1,j1,j1,j0],[j1,j1,j1,j1,j0]] [[j1,j1,j1,j1,j1],[j1,j1,j1,j1,j1],[j1,j1,j1,j1,j1],[j1,j1,j1,j1,j1],[j1,j1,j1,j1,j1],[j1,j1,j1,j1,j1],[j1,j1,j1,j1,j1],[j1,j1,j1,j1,j1],[j1,j1,j1,j1,j0],[j1,j1,j1,j1,j0],[],[],[],[j1,j1,j1,j1,j0]] [] [] 3 (by kernel_rfl) 14 [[],[],[(34,1)],[],[(36,3)],[(33,0),(35,2),(37,4)],[(38,5)],[(32,6)],[(32,6)],[(32,6)],[],[(39,7)],[(9,10),(40,8)],[(41,9)]] [10,11,12] rfl (by kernel_rfl) rfl (by kernel_rfl) rfl (by decide) (by simp) (fun p hp=>by cases hp) (by kernel_rfl) rfl ?_
   refine⟨_,fun H=>j6.Q1 y7 (.t a8) (u7.app .z4) a8,?_⟩
   refine⟨_,fun H=>j6.B1 x8.l3 a6M a8 (.t a8) a8,?_⟩
   refine⟨_,fun H=>j6.ldF (fun x=>x.Tag) y6 (.t a8) (u7.app .z3) (fun _=>a8) a8,?_⟩
   refine⟨_,fun H=>j6.G2 a0C (.t a8) a8,?_⟩
   refine⟨_,fun H=>j6.o7 hG (a94 _) (.cons (.t a8) .nil) a8,?_⟩
   refine⟨_,fun H=>j6.o7 hG (b8F _ _ _) (.cons (.t a8) (.cons (.t a8) (.cons (.t a8) .nil))) a8,?_⟩
   refine⟨_,fun H=>j6.move (.t a8) a8,?_⟩
   refine⟨_,fun H=>j6.O7 (.t a8) a8,?_⟩
   refine⟨_,fun H=>j6.O8 (.t a8) a8,?_⟩
   refine⟨_,fun H=>j6.O9 (.t a8) a8,?_⟩
   refine .inl (.inl (.inl ?_))
   refine⟨_,fun H=>j6.assign (.t a8) a8,?_⟩
   refine⟨a8,?_⟩
   refine⟨⟨j2 [c8,c8,c8,c8,c8],a8⟩,fun Ys5 => ?_⟩
   refine A6.alloc y6 fun b9 => ?_
   refine⟨[_],_,a8,?_⟩
   refine⟨⟨j2 [c8,c8,c8,c8,c8],a8⟩,fun Ys5 => ?_⟩
   refine A6.O5 y7 (.t rfl) (.t rfl) (.s (u7.app (u7.app .z4))) ?_
   refine⟨[_],_,a8,?_⟩
   refine⟨⟨j2 [c8,c8,c8,c8,_],a8⟩,fun Ys5 => ?_⟩
   refine A6.O5 y6 (.t rfl) (.t rfl) .z ?_
   refine⟨[_],_,a8,?_⟩
   refine⟨⟨j2 [c8,c8,c8,c8,_],a8⟩,fun ws5 => ?_⟩
   refine⟨⟨j2 [c8,c8,c8,c8,_],a8⟩,fun _ => ?_⟩
   show D5 _ _ _ _ _ [] ((10,_)::(9,_)::(41,_)::(40,_)::(39,_)::(32,_)::(38,_)::(37,_)::(36,_)::(35,_)::(34,_)::(33,_)::_) _
   refine .q 8 hG ⟨fun hc43 => ?_,fun hc43 => ?_⟩
   ·refine .q 2 hG ?_
    refine .p (.bS0 (α:=m5) a8 y7 a1r (.p (.bS0 (α:=x8) a8 U6 b0m (.mv a8 (.n (.O5 y7 (.t a8) (.t a8) .z2 (.n (.O5 U6 (.t a8) (.t a8) .z1 (.ag a8 ?_)))))))))
    refine .q 2 hG ?_
    refine⟨_,.r3 a8 (.cell y7 a8 .z2) (.cell U6 a8 .z1) (.tmp a8),?_⟩
    unfold a4h
    rw [if_neg (by simpa using hc13),if_neg (by rw [b4s hc29];decide),Q3 hc43]
   ·refine .q 2 hG ?_
    refine .a0r [[j1,j1,j1,j1,j1,j1],[j1,j1,j1,j1,j1,j1],[j1,j1,j1,j1,j1,j1],[j1,j1,j1,j1,j1,j1],[j1,j1,j1,j1,j0,j1],[j1,j1,j1,j1,j0,j1]] [[],[j1,j1,j1,j1,j1,j1],[j1,j1,j1,j1,j1,j1],[],[j1,j1,j1,j1,j1,j1],[j1,j1,j1,j1,j1,j1],[],[j1,j1,j1,j1,j0,j1],[j1,j1,j1,j1,j1,j1],[],[j1,j1,j1,j1,j0,j1],[]] [] [] 5 (by kernel_rfl) 12 [[],[],[(48,1)],[(47,0),(49,2)],[],[(51,4)],[(50,3),(52,5)],[],[],[(55,8),(53,6)],[],[(56,10),(54,7)]] [0,3,6,9,11] rfl (by kernel_rfl) rfl (by kernel_rfl) rfl (by decide) (by simp) (fun p hp=>by cases hp) (by kernel_rfl) rfl (.inl ?_)
    refine⟨_,fun H=>j6.B1 x8.l2 b0l a8 (.t a8) a8,?_⟩
    refine⟨_,fun H=>j6.ldF (fun x=>x.j9) a8A (.t a8) (u7.app .z4) (fun _=>a8) a8,?_⟩
    refine .inl ?_
    refine⟨_,fun H=>j6.G2 a0C (.t a8) a8,?_⟩
    refine⟨_,fun H=>j6.F1 (α:=m9) a0C underlying24 (.cons (.t a8) .nil) a8 (by decide) a8,?_⟩
    refine .inl ?_
    refine⟨_,fun H=>j6.Q1 y6 (.t a8) (u7.app .z) a8,?_⟩
    refine⟨_,fun H=>j6.B1 x8.l2 b0l a8 (.t a8) a8,?_⟩
    refine .inl ?_
    refine⟨_,fun H=>j6.B1 x8.l3 a6M a8 (.t a8) a8,?_⟩
    refine .inl ?_
    refine⟨a8,?_⟩
    refine⟨⟨j2 [c8,c8,c8,c8,c8,c8],a8⟩,fun Ys8 => ?_⟩
    refine A6.buildSlice (α:=m9) a0C underlying24 .nil rfl (by decide) fun b47 => ?_
    refine⟨[_],_,a8,?_⟩
    refine⟨⟨j2 [c8,c8,c8,c8,c8,c8],a8⟩,fun Ys8 => ?_⟩
    refine A6.append c0g (.inl ⟨_,underlying24⟩) rfl .z (.v (.t rfl)) (by simp<;>omega) (by simp<;>omega) (fun w50 => ?_) rfl
    refine⟨[_],_,a8,?_⟩
    refine⟨⟨j2 [c8,c8,c8,c8,c8,c8],a8⟩,fun Ys8 => ?_⟩
    refine A6.append c0g (.inl ⟨_,underlying24⟩) rfl .z (.v (.c rfl)) (by simp<;>omega) (by simp<;>omega) (fun w53 => ?_) rfl
    refine⟨[_],_,a8,?_⟩
    refine⟨⟨j2 [c8,c8,c8,c8,c8,c8],a8⟩,fun Ys8 => ?_⟩
    refine A6.u0 hC .z (A6.as 53 rfl .z (A6.stF (fun y x => { x with j9:=y }) a8A (.t rfl) (.t rfl) (.s (u7.app (u7.app .z4))) (fun _ _=>rfl) ?_))
    refine⟨[_],_,a8,?_⟩
    refine⟨⟨j2 [c8,c8,c8,c8,_,c8],a8⟩,fun Ys8 => ?_⟩
    refine A6.stF (fun y x => { x with Tag:=y }) y6 (.t rfl) (.t rfl) (.s (u7.app (u7.app .z4))) (fun _ _=>rfl) ?_
    refine⟨[_],_,a8,?_⟩
    refine⟨⟨j2 [c8,c8,c8,c8,_,c8],a8⟩,fun ws8 => ?_⟩
    refine⟨⟨j2 [c8,c8,c8,c8,_,c8],a8⟩,fun _ => ?_⟩
    show D5 _ _ _ _ _ [] ((56,_)::(55,_)::(54,_)::(53,_)::(52,_)::(51,_)::(50,_)::(49,_)::(48,_)::(47,_)::_) _
    refine .q 2 hG ?_
    refine .D7 [j1,j1,j0,j0,j1,j1,j1] (by kernel_rfl) 5 [[],[],[(57,0)],[(58,1)],[]] [2,3] a8 (by kernel_rfl) a8 (by kernel_rfl) (by decide) ?_
    refine⟨_,fun H=>j6.Q1 y7 (.t a8) (u7.app .z6) a8,?_⟩
    refine⟨_,fun H=>j6.Q1 U6 (.t a8) (u7.app .z5) a8,?_⟩
    refine .inl (.inl ?_)
    refine⟨_,fun H=>j6.assign (.i a8) a8,?_⟩
    refine⟨⟨([],j2 [c8,c8,_,_,c8,c8,c8]),a8⟩,?_⟩
    refine A6.O5 y7 (.t rfl) (.t rfl) .z3 ?_
    refine⟨⟨([],j2 [c8,c8,_,_,c8,c8,c8]),a8⟩,?_⟩
    refine A6.O5 U6 (.t rfl) (.t rfl) .z2 ?_
    refine⟨⟨([],j2 [c8,c8,_,_,c8,c8,c8]),a8⟩,?_⟩
    show D5 _ _ _ _ _ [] ((8,_)::(58,_)::(57,_)::_) _
    refine .q 2 hG ?_
    refine⟨_,.r3 a8 (.cell y7 a8 .z3) (.cell U6 a8 .z2) (.tmp a8),?_⟩
    unfold a4h
    rw [if_neg (by simpa using hc13),if_neg (by rw [b4s hc29];decide),F8 (Decidable.not_not.1 hc43)];rfl
theorem b8H (a:D0) (p:Pass) (c:Y0):(a4h a p c).2.1.j9.length≤p.j9.length+1:=by
 unfold a4h a04
 split
 ·exact Nat.zero_le _
 ·split
  ·exact Nat.zero_le _
  ·split
   ·simp
   ·exact Nat.zero_le _
theorem a7y {a:D0} {p:Pass} {l:List Pred} {i:Nat} (h:i < l.length):a1p a p (l.drop i)=a04 (a4h a p ⟨false,l[i],0,[],[]⟩) fun b q=>a1p b q (l.drop (i+1)):=by
 rw [List.drop_eq_getElem_cons h];rfl
theorem b0Z {a:D0} {k:Tag} {m:List UInt8} {x:o5} (h:x∈(G8 a k m).1.y2):x∈a.y2:=by
 unfold G8 at h
 split at h
 ·cases h
 ·split at h
  ·exact h
  ·split at h
   ·cases h
   ·exact h
theorem b2v (a:D0) (p:Pass) (l:List Pred) (hp:p.j9.length+l.length≤1000000):u1 gl prog 79 [.v a,.v p,.v l] (fun r=>r = .t3 (.v (a1p a p l).1) (.v (a1p a p l).2.1) (.v (a1p a p l).2.2)):=by
 refine u1.jn func79 (by kernel_rfl) 40 rfl fun C hC hG => ?_
 refine .q 3 hG fun b3 => ?_
 refine .q 1 hG fun b4 => ?_
 refine .q 1 hG fun b6 => ?_
 refine .q 1 hG fun b7 => ?_
 refine .q 3 hG ?_
 refine .T7 2 a8 fun hl2 => ?_
 refine .q 9 hG ?_
 refine .D9 (α:=Nat×D0×Pass×Int) [(2,_),(3,_),(4,_),(6,_),(7,_)] (fun x R=>(9,.v x.2.2.2)::(10,.v (x.1:Int))::R) (fun x => [(true,.ob (ptr b7 0) (default:Pass)),(true,.ob (ptr b6 0) (default:D0)),(true,.ob (ptr b4 0) x.2.2.1),(true,.ob (ptr b3 0) x.2.1)]) (fun x=>x.1≤l.length∧(x.2.2.2=0→a1p a p l=a1p x.2.1 x.2.2.1 (l.drop x.1))∧(x.2.2.2≠0→a1p a p l=(default,default,x.2.2.2))∧x.2.2.1.j9.length≤p.j9.length+x.1) (fun x=>l.length - x.1) ((0,a,p,0)) (.c2 a8 a8 (.c2 a8 a8 (.cons a8 (.nil _)))) ?_ (.c2 a8 a8 (.c2 a8 a8 (.c2 a8 a8 (.cons a8 (.nil _))))) (a8) fun x hF => ?_
 ·exact⟨Nat.zero_le _,fun _=>a8,fun h=>absurd a8 h,Nat.le_refl _⟩
 obtain⟨i,b,q,e⟩:=x
 obtain⟨h1,h2,h3,h4⟩:=hF
 dsimp only at h1 h2 h3 h4 ⊢
 refine .q 12 hG ?_
 refine .cond (.t a8) (fun hc18 => ?_) (fun hc18 => ?_)
 ·refine .q 3 hG ?_
  have hlt:i < l.length∧e=0:=by simpa using hc18
  refine .a0r [[j1,j1,j1,j1],[j1,j1,j1,j0],[j1,j1,j0,j0]] [[j1,j1,j1,j1],[j1,j1,j1,j1],[j1,j1,j1,j1],[j1,j1,j1,j1],[j1,j1,j1,j1],[j1,j1,j1,j1],[j1,j1,j1,j1],[j1,j1,j1,j1],[j1,j1,j1,j1],[j1,j1,j1,j1],[j1,j1,j1,j0],[j1,j1,j0,j0],[],[],[j1,j1,j0,j0]] [] [] 2 (by kernel_rfl) 15 [[],[],[],[],[(24,2),(25,3)],[(26,4)],[(27,5)],[(22,0),(23,1),(28,6)],[(29,7)],[(21,8)],[(21,8)],[(21,8)],[(30,9)],[(31,10)],[(32,11)]] [12,13] rfl (by kernel_rfl) rfl (by kernel_rfl) rfl (by decide) (by simp) (fun p hp=>by cases hp) (by kernel_rfl) rfl ?_
  refine⟨_,fun H=>j6.Q1 y7 (.t a8) (u7.app .z3) a8,?_⟩
  refine⟨_,fun H=>j6.Q1 U6 (.t a8) (u7.app .z2) a8,?_⟩
  refine⟨_,fun H=>j6.move (.t a8) a8,?_⟩
  refine⟨_,fun H=>j6.move (.t a8) a8,?_⟩
  refine⟨_,fun H=>j6.idx T1 underlying83 (.t a8) (.t a8) (by omega) (by omega) a8,?_⟩
  refine⟨_,fun H=>j6.G2 T1 (.t a8) a8,?_⟩
  refine⟨_,fun H=>j6.bS1 m9.l1 a8 a0C b9K (fun c1=>(⟨false,c1,0,[],[]⟩:m9)) (fun _=>a8) a8 a8 (.t a8) a8,?_⟩
  refine⟨_,fun H=>j6.o7 hG (c1n _ _ _ (by omega)) (.cons (.t a8) (.cons (.t a8) (.cons (.t a8) .nil))) a8,?_⟩
  refine⟨_,fun H=>j6.move (.t a8) a8,?_⟩
  refine⟨_,fun H=>j6.O7 (.t a8) a8,?_⟩
  refine⟨_,fun H=>j6.O8 (.t a8) a8,?_⟩
  refine⟨_,fun H=>j6.O9 (.t a8) a8,?_⟩
  refine .inl (.inl ?_)
  refine⟨_,fun H=>j6.assign (.t a8) a8,?_⟩
  refine⟨a8,?_⟩
  refine⟨⟨j2 [c8,c8,c8,c8],a8⟩,fun Ys5 => ?_⟩
  refine A6.O5 y7 (.t rfl) (.t rfl) (u7.app (u7.app .z3)) ?_
  refine⟨[],_,a8,?_⟩
  refine⟨⟨j2 [c8,c8,c8,_],a8⟩,fun Ys5 => ?_⟩
  refine A6.O5 U6 (.t rfl) (.t rfl) (u7.app (u7.app .z2)) ?_
  refine⟨[],_,a8,?_⟩
  refine⟨⟨j2 [c8,c8,_,_],a8⟩,fun ws5 => ?_⟩
  refine⟨⟨j2 [c8,c8,_,_],a8⟩,fun _ => ?_⟩
  show D5 _ _ _ _ _ [] ((9,_)::(32,_)::(31,_)::(30,_)::(21,_)::(29,_)::(28,_)::(27,_)::(26,_)::(25,_)::(24,_)::(23,_)::(22,_)::_) _
  refine .q 3 hG ?_
  refine .ad (by omega) (by omega) ?_
  refine .q 2 hG ?_
  refine⟨(i+1,(a4h b q ⟨false,l[i],0,[],[]⟩).1,(a4h b q ⟨false,l[i],0,[],[]⟩).2.1,(a4h b q ⟨false,l[i],0,[],[]⟩).2.2),.c2 rfl rfl (.c2 rfl rfl (.c2 rfl rfl (.cons rfl (.nil _)))),rfl,?_,by dsimp only;omega⟩
  exact⟨by dsimp only;omega,fun h=>by dsimp only at h ⊢;rw [h2 hlt.2,a7y hlt.1,F8 h],fun h=>by dsimp only at h ⊢;rw [h2 hlt.2,a7y hlt.1,Q3 h],by have:=b8H b q ⟨false,l[i],0,[],[]⟩;dsimp only;omega⟩
 ·refine .q 8 hG ⟨fun hc34 => ?_,fun hc34 => ?_⟩
  ·refine .q 2 hG ?_
   refine .p (.bS0 (α:=m5) a8 y7 a1r (.p (.bS0 (α:=x8) a8 U6 b0m ?_)))
   refine .q 6 hG ?_
   refine⟨_,.r3 a8 (.cell y7 a8 .z1) (.cell U6 a8 .z) (.tmp a8),?_⟩
   rw [h3 hc34]
  ·refine .q 2 hG ?_
   refine .D7 [j0,j0,j1,j1] (by kernel_rfl) 5 [[],[],[(38,0)],[(39,1)],[]] [2,3] a8 (by kernel_rfl) a8 (by kernel_rfl) (by decide) ?_
   refine⟨_,fun H=>j6.Q1 y7 (.t a8) (u7.app .z3) a8,?_⟩
   refine⟨_,fun H=>j6.Q1 U6 (.t a8) (u7.app .z2) a8,?_⟩
   refine .inl (.inl ?_)
   refine⟨_,fun H=>j6.assign (.i a8) a8,?_⟩
   refine⟨⟨([],j2 [_,_,c8,c8]),a8⟩,?_⟩
   refine A6.O5 y7 (.t rfl) (.t rfl) .z1 ?_
   refine⟨⟨([],j2 [_,_,c8,c8]),a8⟩,?_⟩
   refine A6.O5 U6 (.t rfl) (.t rfl) .z ?_
   refine⟨⟨([],j2 [_,_,c8,c8]),a8⟩,?_⟩
   show D5 _ _ _ _ _ [] ((8,_)::(39,_)::(38,_)::_) _
   refine .q 2 hG ?_
   refine⟨_,.r3 a8 (.cell y7 a8 .z1) (.cell U6 a8 .z) (.tmp a8),?_⟩
   obtain rfl:e=0:=Decidable.not_not.1 hc34
   have hx:l.length≤i:=by simpa using hc18
   rw [h2 rfl,List.drop_of_length_le hx];rfl
theorem c3p (a:D0) (p:Pass) (b:c19) (hp:p.j9.length≤1000000) (hb:∀ x∈a.y2,x.U4.length≤1000000) (ht:b.j8.length≤1000000):u1 gl prog 81 [.v a,.v p,.v b] (fun r=>r = .t3 (.v (b2q a p b).1) (.v (b2q a p b).2.1) (.v (b2q a p b).2.2)):=by
 refine u1.jn func81 (by kernel_rfl) 54 rfl fun C hC hG => ?_
 refine .q 3 hG fun b3 => ?_
 refine .q 1 hG fun b4 => ?_
 refine .q 1 hG fun b5 => ?_
 refine .q 1 hG fun b6 => ?_
 refine .q 1 hG fun b7 => ?_
 refine .q 3 hG ?_
 refine .A0 hC .z2 (.M1 5 rfl .z2 (.a0r [[j1,j1,j1,j1,j1],[j1,j1,j1,j1,j1],[j1,j1,j1,j1,j0],[j1,j1,j1,j1,j0]] [[j1,j1,j1,j1,j1],[j1,j1,j1,j1,j1],[j1,j1,j1,j1,j1],[j1,j1,j1,j1,j1],[j1,j1,j1,j1,j1],[j1,j1,j1,j1,j1],[j1,j1,j1,j1,j1],[j1,j1,j1,j1,j1],[j1,j1,j1,j1,j1],[j1,j1,j1,j1,j0],[j1,j1,j1,j1,j0],[],[],[],[j1,j1,j1,j1,j0]] [] [] 3 (by kernel_rfl) 15 [[],[],[(14,1)],[],[(16,3)],[(17,4)],[(13,0),(15,2),(18,5)],[(19,6)],[(12,7)],[(12,7)],[(12,7)],[],[(20,8)],[(9,11),(21,9)],[(22,10)]] [11,12,13] rfl (by kernel_rfl) rfl (by kernel_rfl) rfl (by decide) (by simp) (fun p hp=>by cases hp) (by kernel_rfl) rfl ?_))
 refine⟨_,fun H=>j6.Q1 y7 (.t a8) (u7.app .z4) a8,?_⟩
 refine⟨_,fun H=>j6.B1 x8.l3 a6M a8 (.t a8) a8,?_⟩
 refine⟨_,fun H=>j6.ldF (fun x=>x.Tag) y6 (.t a8) (u7.app .z3) (fun _=>a8) a8,?_⟩
 refine⟨_,fun H=>j6.A7 C5.l2 (fun x=>x.j8) b0q a8 (fun _=>a8) (.t a8) a8,?_⟩
 refine⟨_,fun H=>j6.G2 a2H (.t a8) a8,?_⟩
 refine⟨_,fun H=>j6.o7 hG (a8R _ ht) (.cons (.t a8) .nil) a8,?_⟩
 refine⟨_,fun H=>j6.o7 hG (a5N _ _ _) (.cons (.t a8) (.cons (.t a8) (.cons (.t a8) .nil))) a8,?_⟩
 refine⟨_,fun H=>j6.move (.t a8) a8,?_⟩
 refine⟨_,fun H=>j6.O7 (.t a8) a8,?_⟩
 refine⟨_,fun H=>j6.O8 (.t a8) a8,?_⟩
 refine⟨_,fun H=>j6.O9 (.t a8) a8,?_⟩
 refine .inl (.inl (.inl ?_))
 refine⟨_,fun H=>j6.assign (.t a8) a8,?_⟩
 refine⟨a8,?_⟩
 refine⟨⟨j2 [c8,c8,c8,c8,c8],a8⟩,fun Ys1 => ?_⟩
 refine A6.alloc y6 fun b9 => ?_
 refine⟨[_],_,a8,?_⟩
 refine⟨⟨j2 [c8,c8,c8,c8,c8],a8⟩,fun Ys1 => ?_⟩
 refine A6.O5 y7 (.t rfl) (.t rfl) (.s (u7.app (u7.app .z4))) ?_
 refine⟨[_],_,a8,?_⟩
 refine⟨⟨j2 [c8,c8,c8,c8,_],a8⟩,fun Ys1 => ?_⟩
 refine A6.O5 y6 (.t rfl) (.t rfl) .z ?_
 refine⟨[_],_,a8,?_⟩
 refine⟨⟨j2 [c8,c8,c8,c8,_],a8⟩,fun ws1 => ?_⟩
 refine⟨⟨j2 [c8,c8,c8,c8,_],a8⟩,fun _ => ?_⟩
 show D5 _ _ _ _ _ [] ((10,_)::(9,_)::(22,_)::(21,_)::(20,_)::(12,_)::(19,_)::(18,_)::(17,_)::(16,_)::(15,_)::(14,_)::(13,_)::_) _
 refine .q 8 hG ⟨fun hc24 => ?_,fun hc24 => ?_⟩
 ·refine .q 2 hG ?_
  refine .p (.bS0 (α:=m5) a8 y7 a1r (.p (.bS0 (α:=x8) a8 U6 b0m (.mv a8 (.n (.O5 y7 (.t a8) (.t a8) .z2 (.n (.O5 U6 (.t a8) (.t a8) .z1 (.ag a8 ?_)))))))))
  refine .q 2 hG ?_
  refine⟨_,.r3 a8 (.cell y7 a8 .z2) (.cell U6 a8 .z1) (.tmp a8),?_⟩
  unfold b2q
  rw [Q3 (r:=G8 a p.Tag (A9 b.j8)) hc24]
 ·refine .q 2 hG ?_
  have hb1:∀ x∈(G8 a p.Tag (A9 b.j8)).1.y2,x.U4.length≤1000000:=fun x hx=>hb x (b0Z hx)
  refine .a0r [[j1,j1,j1,j1,j1,j1],[j1,j1,j1,j1,j1,j0]] [[j1,j1,j1,j1,j1,j1],[j1,j1,j1,j1,j1,j1],[j1,j1,j1,j1,j1,j1],[j1,j1,j1,j1,j1,j1],[j1,j1,j1,j1,j1,j1],[j1,j1,j1,j1,j1,j1],[j1,j1,j1,j1,j1,j1],[j1,j1,j1,j1,j1,j0],[j1,j1,j1,j1,j1,j0],[],[j1,j1,j1,j1,j1,j0],[j1,j1,j1,j1,j1,j0]] [] [] 1 (by kernel_rfl) 12 [[],[],[],[(31,2)],[(29,0),(30,1),(32,3)],[(33,4)],[(28,5)],[(28,5)],[(28,5)],[(34,6)],[(35,7)],[(36,8)]] [9] rfl (by kernel_rfl) rfl (by kernel_rfl) rfl (by decide) (by simp) (fun p hp=>by cases hp) (by kernel_rfl) rfl ?_
  refine⟨_,fun H=>j6.Q1 y7 (.t a8) (u7.app .z5) a8,?_⟩
  refine⟨_,fun H=>j6.Q1 y6 (.t a8) (u7.app .z) a8,?_⟩
  refine⟨_,fun H=>j6.A7 C5.l1 (fun x=>x.Key) b9N a8 (fun _=>a8) (.t a8) a8,?_⟩
  refine⟨_,fun H=>j6.P0 (by decide) M0 (.t a8) a8,?_⟩
  refine⟨_,fun H=>j6.o7 hG (b5w _ _ _ _ hb1) (.cons (.t a8) (.cons (.t a8) (.cons (.i a8) (.cons (.t a8) .nil)))) a8,?_⟩
  refine⟨_,fun H=>j6.move (.t a8) a8,?_⟩
  refine⟨_,fun H=>j6.O7 (.t a8) a8,?_⟩
  refine⟨_,fun H=>j6.O8 (.t a8) a8,?_⟩
  refine⟨_,fun H=>j6.O9 (.t a8) a8,?_⟩
  refine .inl ?_
  refine⟨_,fun H=>j6.assign (.t a8) a8,?_⟩
  refine⟨_,fun H=>j6.assign (.t a8) a8,?_⟩
  refine⟨a8,?_⟩
  refine⟨⟨j2 [c8,c8,c8,c8,c8,c8],a8⟩,fun Ys4 => ?_⟩
  refine A6.O5 y7 (.t rfl) (.t rfl) (u7.app (u7.app .z5)) ?_
  refine⟨[],_,a8,?_⟩
  refine⟨⟨j2 [c8,c8,c8,c8,c8,_],a8⟩,fun ws4 => ?_⟩
  refine⟨⟨j2 [c8,c8,c8,c8,c8,_],a8⟩,fun _ => ?_⟩
  show D5 _ _ _ _ _ [] ((10,_)::(11,_)::(36,_)::(35,_)::(34,_)::(28,_)::(33,_)::(32,_)::(31,_)::(30,_)::(29,_)::_) _
  refine .q 8 hG ⟨fun hc38 => ?_,fun hc38 => ?_⟩
  ·refine .q 2 hG ?_
   refine .p (.bS0 (α:=m5) a8 y7 a1r (.p (.bS0 (α:=x8) a8 U6 b0m (.mv a8 (.n (.O5 y7 (.t a8) (.t a8) .z2 (.n (.O5 U6 (.t a8) (.t a8) .z1 (.ag a8 ?_)))))))))
   refine .q 2 hG ?_
   refine⟨_,.r3 a8 (.cell y7 a8 .z2) (.cell U6 a8 .z1) (.tmp a8),?_⟩
   unfold b2q
   rw [F8 (r:=G8 a p.Tag (A9 b.j8)) (Decidable.not_not.1 hc24),Q3 hc38]
  ·refine .q 3 hG ?_
   refine .p (.Q1 y7 (.t a8) .z5 (.p (.Q1 U6 (.t a8) .z4 (.p (.A7 C5.l0 (fun x=>x.G6) b9M a8 (fun _=>a8) (.t a8) (.p (.G2 R6 (.t a8) (.p (.A7 C5.l2 (fun x=>x.j8) b0q a8 (fun _=>a8) (.t a8) (.p (.G2 a2H (.t a8) (.mv a8 (.p (.bS4 m9.l0 m9.l2 m9.l3 m9.l4 a8 a0C b9K (fun c0 c2 c3 c4=>(⟨c0,default,c2,c3,c4⟩:m9)) (fun _ _ _ _=>a8) a8 a8 a8 a8 a8 .b (.t a8) (.t a8) (.t a8) (.p (.o7 hG (c1n _ _ _ hp) (.cons (.t a8) (.cons (.t a8) (.cons (.t a8) .nil))) (.p (.O7 (.t a8) (.p (.O8 (.t a8) (.p (.O9 (.t a8) (.n (.O5 y7 (.t a8) (.t a8) .z2 (.n (.O5 U6 (.t a8) (.t a8) .z1 (.ag a8 ?_)))))))))))))))))))))))))))
   refine .q 2 hG ?_
   refine⟨_,.r3 a8 (.cell y7 a8 .z2) (.cell U6 a8 .z1) (.tmp a8),?_⟩
   unfold b2q
   rw [F8 (r:=G8 a p.Tag (A9 b.j8)) (Decidable.not_not.1 hc24),F8 (Decidable.not_not.1 hc38)]
structure Made (a:D0) (n:Nat) (k:Tag) (m:List UInt8) (b:D0) (t:Tag):Prop where
 mac:G8 a k m=(b,t,0)
 again:G8 b k m=(b,t,0)
 look:l9 b k m=(t,true)
 len:b.G4.length≤a.G4.length+1
 c41:a.G4.length≤b.G4.length
 old:∀ i (h:i < a.G4.length),l9 b a.G4[i].Key a.G4[i].Message=(a.G4[i].Tag,true)
 ok:H5 b (n+1)
theorem H5.b8I {a:D0} {n:Nat} (h:H5 a n) (i:Nat) (hi:i < a.G4.length):l9 a a.G4[i].Key a.G4[i].Message=(a.G4[i].Tag,true):=by
 obtain⟨h1,h2⟩:=h.tag i hi
 unfold l9
 cases hf:a.K2 with
 | true =>
  rw [if_pos rfl]
  unfold M9 S4
  rw [h.uniq i hi]
 | false =>
  rw [if_neg (by decide),if_neg (by omega),h2,hf];rfl
theorem H5.b1a {a:D0} {n:Nat} (h:H5 a n):∀ x∈a.y2,x.Plain.length≤1000000:=fun x hx=>by
 obtain⟨i,hi,rfl⟩:=List.getElem_of_mem hx
 have:=(h.box i hi).1
 omega
theorem b1b (k:Tag) (n:UInt64) (p:List UInt8):K7 k n (K7 k n p p.length) (K7 k n p p.length).length=p:=by
 rw [a7q,a7q]
 apply List.ext_getElem (by simp)
 intro i h1 h2
 simp [UInt8.xor_assoc]
theorem b2w (k:Tag) (n:Int) (p:List UInt8):(V8 k n p).length=p.length+8:=by simp [V8,E1,P3];omega
theorem a96 (k:Tag) (n:Int) (p:List UInt8):(Y8 k n p).take ((Y8 k n p).length - 32)=V8 k n p:=by
 rw [a2K]
 unfold Y8
 rw [List.take_left' (by rw [b2w];omega)]
theorem b6E (k:Tag) (n:Int) (p:List UInt8):(Y8 k n p).drop ((Y8 k n p).length - 32)=(a0m k.l (a3k.l++V8 k n p)).l:=by
 rw [a2K]
 unfold Y8
 rw [List.drop_left' (by rw [b2w];omega)]
theorem b6F (k:Tag) (n:Int) (p:List UInt8):a3F k (Y8 k n p)=p:=by
 unfold a3F
 rw [a96]
 have h1:(V8 k n p).take 8=S1 (UInt64.ofInt n) 8:=by unfold V8;rw [List.take_left' (E1 _ _)]
 have h2:(V8 k n p).drop 8=K7 k (UInt64.ofInt n) p p.length:=by unfold V8;rw [List.drop_left' (E1 _ _)]
 rw [h1,h2,a7r,b1b]
structure P7 (a b:D0):Prop where
 free:b.K2=a.K2
 fresh:a.F9≤b.F9
 a0s:∃ l,b.G4=a.G4++l
 boxes:∃ l,b.y2=a.y2++l
theorem P7.refl (a:D0):P7 a a:=⟨rfl,Int.le_refl _,⟨[],(List.append_nil _).symm⟩,⟨[],(List.append_nil _).symm⟩⟩
theorem P7.trans {a b c:D0} (h:P7 a b) (g:P7 b c):P7 a c:=by
 obtain⟨l,hl⟩:=h.a0s
 obtain⟨m,hm⟩:=g.a0s
 obtain⟨p,hp⟩:=h.boxes
 obtain⟨q,hq⟩:=g.boxes
 exact⟨g.free.trans h.free,Int.le_trans h.fresh g.fresh,⟨l++m,by rw [hm,hl,List.append_assoc]⟩,⟨p++q,by rw [hq,hp,List.append_assoc]⟩⟩
theorem P7.c0u {a b:D0} (h:P7 a b) {x:o5} (hx:x∈a.y2):x∈b.y2:=by
 obtain⟨l,hl⟩:=h.boxes;rw [hl];exact List.mem_append_left _ hx
theorem look_eq {a:D0} {k t:Tag} {m:List UInt8}:l9 a k m=(t,true)↔(if a.K2 then (∃ x,S4 a k m=some x∧x.Tag=t) else (m.length≤4096∧a0m k.l m=t)):=by
  unfold l9 M9
  cases a.K2 with
  | true =>
    rw [if_pos rfl,if_pos rfl]
    cases S4 a k m with
    | none => constructor
              · intro h;cases h
              · rintro⟨x,h,_⟩;cases h
    | some x => constructor
                · intro h;exact⟨x,rfl,(Prod.mk.inj h).1⟩
                · rintro⟨y,h,rfl⟩;cases h;rfl
  | false =>
    rw [if_neg (show ¬(false=true) by decide),if_neg (show ¬(false=true) by decide)]
    by_cases h:4096 < m.length
    · rw [if_pos h];constructor
      · intro h;cases h
      · rintro⟨h,_⟩;omega
    · rw [if_neg h];constructor
      · intro h;exact⟨by omega,(Prod.mk.inj h).1⟩
      · rintro⟨_,rfl⟩;rfl
theorem P7.look {a b:D0} (h:P7 a b) {k t:Tag} {m:List UInt8} (hl:l9 a k m=(t,true)):l9 b k m=(t,true):=by
 rw [look_eq] at hl ⊢
 rw [h.free]
 cases hf:a.K2 with
 | true =>
  rw [hf,if_pos rfl] at hl
  rw [if_pos rfl]
  obtain⟨x,h1,h2⟩:=hl
  obtain⟨l,e⟩:=h.a0s
  refine⟨x,?_,h2⟩
  unfold S4 at *
  rw [e,List.find?_append,h1];rfl
 | false =>
  rw [hf,if_neg (by decide)] at hl
  rw [if_neg (by decide)];exact hl
theorem P7.looks {a b:D0} (h:P7 a b) {k:Tag} {m:List UInt8} (hl:(l9 a k m).2=true):(l9 b k m).2=true:=by
 rw [h.look (Prod.ext rfl hl)]
theorem c0v {a:D0} {k:Tag} {x p:List UInt8}:A5 a k x=(p,0)↔(if a.K2 then (∃ y,a.y2.find? (a3n k x)=some y∧y.Plain=p) else (¬(x.length < 40∨296 < x.length)∧(a0m k.l (a3k.l++x.take (x.length - 32))).l=x.drop (x.length - 32)∧a3F k x=p)):=by
  unfold A5
  cases a.K2 with
  | true =>
    rw [if_pos rfl,if_pos rfl]
    cases a.y2.find? (a3n k x) with
    | none => constructor
              · intro h;cases h
              · rintro⟨x,h,_⟩;cases h
    | some y => constructor
                · intro h;exact⟨y,rfl,(Prod.mk.inj h).1⟩
                · rintro⟨y,h,rfl⟩;cases h;rfl
  | false =>
    rw [if_neg (show ¬(false=true) by decide),if_neg (show ¬(false=true) by decide)]
    by_cases h:x.length < 40∨296 < x.length
    · rw [if_pos h];constructor
      · intro h;cases h
      · rintro⟨h2,_⟩;exact absurd h h2
    · rw [if_neg h]
      by_cases h2:(a0m k.l (a3k.l++x.take (x.length - 32))).l=x.drop (x.length - 32)
      · rw [if_pos h2];constructor
        · intro h3;exact⟨h,h2,(Prod.mk.inj h3).1⟩
        · rintro⟨_,_,rfl⟩;rfl
      · rw [if_neg h2];constructor
        · intro h;cases h
        · rintro⟨_,h3,_⟩;exact absurd h3 h2
theorem P7.opens {a b:D0} (h:P7 a b) {k:Tag} {x p:List UInt8} (hl:A5 a k x=(p,0)):A5 b k x=(p,0):=by
 rw [c0v] at hl ⊢
 rw [h.free]
 cases hf:a.K2 with
 | true =>
  rw [hf,if_pos rfl] at hl
  rw [if_pos rfl]
  obtain⟨y,h1,h2⟩:=hl
  obtain⟨l,e⟩:=h.boxes
  exact⟨y,by rw [e,List.find?_append,h1];rfl,h2⟩
 | false =>
  rw [hf,if_neg (by decide)] at hl
  rw [if_neg (by decide)];exact hl
theorem b2x (n:UInt64):∀ k,k≤8→(S1 n k).foldl (fun a c=>256*a+c.toNat) 0=n.toNat/2^(64 - 8*k):=by
 intro k
 induction k with
 | zero=>intro _;have:=n.toNat_lt;simp [S1];omega
 | succ k ih =>
  intro hk
  rw [a1z,List.foldl_append,ih (by omega)]
  simp only [List.foldl_cons,List.foldl_nil]
  rw [c3n n (56 - 8*k) (by omega)]
  have e1:2^(64 - 8*k)=256*2^(56 - 8*k):=by
   rw [show 64 - 8*k=8+(56 - 8*k) by omega,Nat.pow_add]
  rw [show 64 - 8*(k+1)=56 - 8*k by omega,e1,Nat.mul_comm 256 (2^(56 - 8*k)),←Nat.div_div_eq_div_mul]
  generalize n.toNat/2^(56 - 8*k)=q
  omega
theorem b2y {m n:UInt64} (h:S1 m 8=S1 n 8):m=n:=by
 have h1:=b2x m 8 (by omega)
 have h2:=b2x n 8 (by omega)
 rw [h,h2] at h1
 apply UInt64.toNat_inj.1
 simpa using h1.symm
theorem b8J (c:UInt8) (n:Int):(V7 c n).l=b1X c n 8++List.replicate 17 0:=by
 unfold V7
 have:(b1X c n 8).length=15:=a4E c n 8
 show(b1X c n 8).take 32++(default:Tag).l.drop (b1X c n 8).length=_
 rw [List.take_of_length_le (by omega),this];rfl
theorem b4t {c d:UInt8} {m n:Int} (h:V7 c m=V7 d n):c=d∧UInt64.ofInt m=UInt64.ofInt n:=by
 have h2:=congrArg (·.l) h
 simp only [b8J] at h2
 have h3:=List.append_inj_left h2 (by rw [a4E,a4E])
 unfold b1X at h3
 simp only [List.append_assoc] at h3
 have h4:=List.append_cancel_left h3
 simp only [List.singleton_append,List.cons.injEq] at h4
 exact⟨h4.1,b2y h4.2⟩
theorem a97 {m n:Int} (hm0:0≤m) (hm:m < 18446744073709551616) (hn0:0≤n) (hn:n < 18446744073709551616) (h:UInt64.ofInt m=UInt64.ofInt n):m=n:=by
 have h2:=congrArg UInt64.toNat h
 simp [UInt64.ofInt] at h2
 omega
theorem b5E {c:UInt8} {i j:Nat} (hi:i < 1000000) (hj:j < 1000000) (h:V7 c ((i+1:Nat):Int)=V7 c ((j+1:Nat):Int)):i=j:=by
 have:=a97 (by omega) (by omega) (by omega) (by omega) (b4t h).2
 omega
structure c0w (a:D0) (n:Nat) (k:Tag) (m:List UInt8) (b:D0) (t:Tag):Prop where
 eq:G8 a k m=(b,t,0)
 ok:H5 b (n+1)
 le:P7 a b
 look:l9 b k m=(t,true)
 boxes:b.y2=a.y2
 fresh:b.F9=a.F9
 a0s:∀ x∈b.G4,x∈a.G4∨(x.Key=k∧x.Message=m)
theorem H5.step {a:D0} {n:Nat} (h:H5 a n) (hn:n < 60000) (k:Tag) {m:List UInt8} (hm:m.length≤1000):∃ b t,c0w a n k m b t:=by
 have h1:=h.a0s
 have hok:=h.mac (by omega) (k:=k) hm
 cases hf:S4 a k m with
 | some x =>
  have e:G8 a k m=(a,x.Tag,0):=by unfold G8;rw [if_neg (by omega),hf]
  rw [e] at hok
  obtain⟨i,hi,rfl⟩:=List.getElem_of_mem (List.mem_of_find?_eq_some hf)
  have hx:=(a9M k m _).1 (List.find?_some hf)
  have hl:=h.b8I i hi
  rw [hx.1,hx.2] at hl
  exact⟨a,_,e,hok,P7.refl _,hl,a8,a8,fun x hx=>Or.inl hx⟩
 | none =>
  have e:=a3X (a:=a) (k:=k) (m:=m) (by omega) hf (by omega)
  rw [e] at hok
  have hi:a.G4.length < (a.G4 ++ [(⟨k,m,a3j a k m⟩:y5)]).length:=by simp
  have hl:=hok.b8I a.G4.length hi
  simp only [List.getElem_concat_length] at hl
  refine⟨_,_,e,hok,⟨rfl,Int.le_refl _,⟨_,rfl⟩,⟨[],by simp⟩⟩,hl,rfl,rfl,fun x hx => ?_⟩
  rcases List.mem_append.1 hx with h|h
  ·exact Or.inl h
  ·obtain rfl:=List.mem_singleton.1 h;exact Or.inr ⟨rfl,rfl⟩
structure b8K (a:D0) (n:Nat) (k:Tag) (m:List UInt8) (b:D0) (t:Tag):Prop where
 eq:a5v a k m=(b,t,0)
 ok:H5 b (n+2)
 le:P7 a b
 look:l9 b k m=(t,true)
 node:(l9 b t E9).2=true
 boxes:b.y2=a.y2
 fresh:b.F9=a.F9
 a0s:∀ x∈b.G4,x∈a.G4∨x.Message=m∨x.Message=E9
theorem H5.a0c {a:D0} {n:Nat} (h:H5 a n) (hn:n < 50000) (k:Tag) {m:List UInt8} (hm:m.length≤1000):∃ b t,b8K a n k m b t:=by
 obtain⟨b,t,s⟩:=h.step (by omega) k hm
 obtain⟨c,u,s2⟩:=s.ok.step (by omega) t (m:=E9) (by decide)
 refine⟨c,t,?_,s2.ok,s.le.trans s2.le,s2.le.look s.look,by rw [s2.look],s2.boxes.trans s.boxes,s2.fresh.trans s.fresh,fun x hx => ?_⟩
 ·unfold a5v;rw [s.eq,F8 rfl];dsimp only;rw [s2.eq,F8 rfl]
 ·rcases s2.a0s x hx with h|⟨_,h⟩
  ·rcases s.a0s x h with h|⟨_,h⟩
   ·exact Or.inl h
   ·exact Or.inr (Or.inl h)
  ·exact Or.inr (Or.inr h)
structure c0x (a:D0) (n:Nat) (b:D0) (t:Tag):Prop where
 eq:Q7 a=(b,t,0)
 ok:H5 b (n+1)
 le:P7 a b
 boxes:b.y2=a.y2
 a0s:b.G4=a.G4
 fresh:b.F9=a.F9+1
 sym:a.K2=true→t=V7 107 b.F9
theorem H5.b1c {a:D0} {n:Nat} (h:H5 a n) (hn:n < 60000):∃ b t,c0x a n b t:=by
 have h1:=h.a60
 have hok:=h.key (by omega)
 have e:Q7 a=(⟨a.K2,a.a4g,a.F9+1,a.G4,a.y2⟩,(if a.K2 then V7 107 (a.F9+1) else (derive a.a4g a8G (a.F9+1)).1),0):=by
  unfold Q7;rw [if_neg (by omega)]
 rw [e] at hok
 exact⟨_,_,e,hok,⟨rfl,by show a.F9≤a.F9+1;omega,⟨[],by simp⟩,⟨[],by simp⟩⟩,rfl,rfl,rfl,fun hf=>by rw [hf];rfl⟩
theorem H5.b5F {b:D0} {m:Nat} (hb:H5 b m) (hm:m≤60000) {i:Nat} (h:i < b.y2.length):A5 b b.y2[i].Key b.y2[i].U4=(b.y2[i].Plain,0)∧b.y2[i].U4.length=b.y2[i].Plain.length+40:=by
 have hl:=hb.boxes
 obtain⟨h1,h2,h3,h4⟩:=hb.box i h
 cases hf:b.K2 with
 | true =>
  rw [hf,if_pos rfl] at h4
  refine⟨?_,by rw [h4,List.length_append,I7.len,List.length_replicate];omega⟩
  cases hq:b.y2.find? (a3n b.y2[i].Key b.y2[i].U4) with
  | none =>
   have:=List.find?_eq_none.1 hq b.y2[i] (List.getElem_mem h)
   simp [a3n] at this
  | some y =>
   rw [a3o hf hq]
   have hy:=List.find?_some hq
   obtain⟨j,hj,rfl⟩:=List.getElem_of_mem (List.mem_of_find?_eq_some hq)
   obtain⟨_,_,_,g4⟩:=hb.box j hj
   rw [hf,if_pos rfl] at g4
   simp only [a3n,Bool.and_eq_true,decide_eq_true_eq] at hy
   have e:=hy.2
   rw [g4,h4] at e
   obtain rfl:=b5E (by omega) (by omega) (I7.ext (List.append_inj_left e (by rw [I7.len,I7.len])))
   rfl
 | false =>
  rw [hf,if_neg (by decide)] at h4
  have hlen:b.y2[i].U4.length=b.y2[i].Plain.length+40:=by rw [h4,a2K]
  refine⟨?_,hlen⟩
  rw [a5T hf (by omega)]
  ·rw [h4,b6F]
  ·rw [h4,a96,b6E]
structure b8L (a:D0) (n:Nat) (k:Tag) (c:Int) (p:List UInt8) (b:D0) (x:List UInt8):Prop where
 eq:Q8 a k c p=(b,x,0)
 ok:H5 b (n+1)
 le:P7 a b
 opens:A5 b k x=(p,0)
 len:x.length=p.length+40
 a0s:b.G4=a.G4
 fresh:b.F9=a.F9
 at_:∃ i,∃ h:i < b.y2.length,b.y2[i]=⟨k,c,p,x⟩
 boxes:∀ y∈b.y2,y∈a.y2∨y=⟨k,c,p,x⟩
theorem H5.b2z {a:D0} {n:Nat} (ha:H5 a n) (hn:n < 50000) (k:Tag) {c:Int} {p:List UInt8} (hc0:0≤c) (hc1:c≤281474976710656) (hp:p.length≤256):∃ b x,b8L a n k c p b x:=by
 have hok:=ha.boxed (by omega) (k:=k) hc0 hc1 hp
 have hr:(decide (c < 0)||decide (281474976710656 < c))=false:=by simp;omega
 have hl:=ha.boxes
 cases hf:a.y2.find? (a4G k c p) with
 | some y =>
  have e:=a3m hr (by omega) hf
  rw [e] at hok
  obtain⟨i,hi,rfl⟩:=List.getElem_of_mem (List.mem_of_find?_eq_some hf)
  have hy:=List.find?_some hf
  simp only [a4G,Bool.and_eq_true,decide_eq_true_eq] at hy
  obtain⟨h1,h2⟩:=ha.b5F (by omega) hi
  obtain⟨⟨e1,e2⟩,e3⟩:=hy
  rw [e1,e3] at h1
  rw [e3] at h2
  refine⟨a,_,e,hok,P7.refl _,h1,h2,a8,a8,⟨i,hi,?_⟩,fun y hy=>Or.inl hy⟩
  rw [←e1,←e2,←e3]
 | none =>
  have e:=a2Y hr (by omega) hf (by omega)
  rw [e] at hok
  have hi:a.y2.length < (a.y2 ++ [(⟨k,c,p,a3l a k c p⟩:o5)]).length:=by simp
  obtain⟨h1,h2⟩:=hok.b5F (by omega) hi
  simp only [List.getElem_concat_length] at h1 h2
  refine⟨_,_,e,hok,⟨rfl,Int.le_refl _,⟨[],by simp⟩,⟨_,rfl⟩⟩,h1,h2,rfl,rfl,⟨a.y2.length,hi,by simp⟩,fun y hy => ?_⟩
  rcases List.mem_append.1 hy with h|h
  ·exact Or.inl h
  ·exact Or.inr (List.mem_singleton.1 h)
theorem P7.walk {a b:D0} (h:P7 a b) {k:Tag} {l:List (List UInt8)} {r:List Tag} (hl:K8 (l9 a) k l=some r):K8 (l9 b) k l=some r:=by
 unfold K8 at *
 generalize (some [k]:Option (List Tag))=o at hl ⊢
 induction l generalizing o with
 | nil=>exact hl
 | cons m l ih =>
  rw [List.foldl_cons] at hl ⊢
  cases o with
  | none =>
   have:Y1 (l9 a) none m=none:=rfl
   rw [this,a5a] at hl;cases hl
  | some s =>
   have e:Y1 (l9 a) (some s) m=Y1 (l9 b) (some s) m:=by
    show(if (l9 a (s.getLastD default) m).2 then some (s ++ [(l9 a (s.getLastD default) m).1]) else none)=if (l9 b (s.getLastD default) m).2 then some (s ++ [(l9 b (s.getLastD default) m).1]) else none
    cases h2:(l9 a (s.getLastD default) m).2 with
    | false =>
     have:Y1 (l9 a) (some s) m=none:=by
      show(if (l9 a (s.getLastD default) m).2 then some (s ++ [(l9 a (s.getLastD default) m).1]) else none)=none
      rw [h2];rfl
     rw [this,a5a] at hl;cases hl
    | true=>rw [h.look (Prod.ext rfl h2)]
   rw [←e];exact ih _ hl
theorem P7.dis {a b:D0} (h:P7 a b) {k t:Tag} {x:List UInt8} {l:List Pred} (hl:W0 a k x l=some t):W0 b k x l=some t:=by
 unfold W0 at *
 have hg:∀ u,a62 a k x=some u→a62 b k x=some u:=fun u hu=>by
  unfold a62 at *
  cases h2:(l9 a k (a0D x)).2 with
  | false=>rw [h2] at hu;cases hu
  | true=>rw [h2] at hu;rw [h.look (Prod.ext rfl h2)];exact hu
 cases h0:a62 a k x with
 | none=>rw [h0,a5U] at hl;cases hl
 | some u =>
  rw [hg u h0];rw [h0] at hl
  clear h0
  induction l generalizing u with
  | nil=>exact hl
  | cons p l ih =>
   rw [List.foldl_cons] at hl ⊢
   have e:∀ v,V9 a (some u) p=some v→V9 b (some u) p=some v:=fun v hv=>by
    unfold V9 at *
    simp only [Option.bind_some] at hv ⊢
    split at hv
    ·next h3=>rw [h.look (Prod.ext rfl h3.2.2)];rw [if_pos ⟨h3.1,h3.2.1,rfl⟩];exact hv
    ·cases hv
   cases h4:V9 a (some u) p with
   | none=>rw [h4,a5U] at hl;cases hl
   | some v=>rw [e v h4];rw [h4] at hl;exact ih v hl
theorem b1d (p:Tag→List UInt8→Tag×Bool) (k:Tag) (l:List (List UInt8)) (m:List UInt8):K8 p k (l ++ [m])=Y1 p (K8 p k l) m:=by
 unfold K8;rw [List.foldl_append];rfl
structure c0y (A:D0) (P:Pass) (g:Dis):Prop where
 tick:1≤g.j8.length∧g.j8.length≤100
 con:∀ p∈g.l8,B0 p=true∧p.Kind≠7
 a7O:g.l8.length≤8
 cav:∃ c∈P.j9,c.Q2=true∧c.j8=g.j8
 key:∃ bk:Tag,W0 A bk g.j8 g.l8=some g.Tag∧(A.K2=true→∃ n,bk=V7 107 n)
 box:∃ x∈A.y2,x.U4=g.j8∧1≤x.E4
structure b6G (A:D0) (G:List Dis) (t:Tag) (c:Y0):Prop where
 th:∃ key bk g,g∈G∧l9 A t (A9 c.j8)=(key,true)∧A5 A key c.U4=(bk.l,0)∧g.j8=c.j8∧W0 A bk g.j8 g.l8=some g.Tag
structure a0n (A:D0) (root:u4) (P:Pass) (G:List Dis) (T:List Tag) (n k:Nat):Prop where
 ok:H5 A n
 a4P:P.D3=root.Number∧1≤root.Number∧root.Number≤2
 a5Y:1≤P.A8∧P.A8≤50
 a34:P.j9.length≤k
 ngr:G.length≤k
 cav:∀ c∈P.j9,I4 c=true∧(E7 c).length≤200
 walk:K8 (l9 A) root.Key (D2 P.A8 P.j9)=some (root.Key::T)
 leaf:(root.Key::T).getLastD default=P.Tag
 a64:T.length=P.j9.length+1
 nodes:∀ t∈T,(l9 A t E9).2=true
 a7z:∀ i (h:i < P.j9.length),P.j9[i].Q2=true→b6G A G (T.getD i default) P.j9[i]
 a3H:∀ g∈G,c0y A P g
 nodup:(G.map (·.j8)).Nodup
 G1:∀ x∈A.y2,x.E4≤A.F9
 a65:A.K2=true→∀ x∈A.y2,x.Plain.length=32→∃ n:Int,x.Plain=(V7 107 n).l
def a3I (A:D0):Prop:=∀ x∈A.G4,∃ c,x.Message.head?=some c∧c≠114∧c≠98
theorem c0y.le {A B:D0} {P Q:Pass} {g:Dis} (h:c0y A P g) (hl:P7 A B) (hp:∀ c∈P.j9,c∈Q.j9):c0y B Q g:=by
 obtain⟨c,hc,hc2⟩:=h.cav
 obtain⟨bk,hb,hb2⟩:=h.key
 obtain⟨x,hx,hx2⟩:=h.box
 exact⟨h.tick,h.con,h.a7O,⟨c,hp c hc,hc2⟩,⟨bk,hl.dis hb,fun hf=>hb2 (hl.free▸hf)⟩,⟨x,hl.c0u hx,hx2⟩⟩
theorem b6G.le {A B:D0} {G H:List Dis} {t:Tag} {c:Y0} (h:b6G A G t c) (hl:P7 A B) (hg:∀ g∈G,g∈H):b6G B H t c:=by
 obtain⟨key,bk,g,h1,h2,h3,h4,h5⟩:=h.th
 exact⟨key,bk,g,hg g h1,hl.look h2,hl.opens h3,h4,hl.dis h5⟩
theorem a0n.le {A B : D0} {root : u4} {P : Pass} {G : List Dis} {T : List Tag} {n m k : Nat} (h : a0n A root P G T n k) (hl : P7 A B) (hb : H5 B m) (hn : ∀ x ∈ B.y2, x.E4 ≤ B.F9)
    (hp:A.K2=true→∀ x∈B.y2,x.Plain.length=32→∃ n:Int,x.Plain=(V7 107 n).l):a0n B root P G T m k :=
  ⟨hb,h.a4P,h.a5Y,h.a34,h.ngr,h.cav,hl.walk h.walk,h.leaf,h.a64,fun t ht=>hl.looks (h.nodes t ht),fun i hi h3=>(h.a7z i hi h3).le hl fun _ hg=>hg,
    fun g hg=>(h.a3H g hg).le hl fun _ hc=>hc,h.nodup,hn,fun hf=>hp (hl.free▸hf)⟩
theorem a0n.mac {A B:D0} {root:u4} {P:Pass} {G:List Dis} {T:List Tag} {n m k:Nat} (h:a0n A root P G T n k) (hl:P7 A B) (hb:H5 B m) (e:B.y2=A.y2):a0n B root P G T m k :=
 h.le hl hb (fun x hx=>Int.le_trans (h.G1 x (e▸hx)) hl.fresh) fun hf x hx=>h.a65 hf x (e▸hx)
theorem a0n.wide {A:D0} {root:u4} {P:Pass} {G:List Dis} {T:List Tag} {n k m j:Nat} (h:a0n A root P G T n k) (hm:n≤m) (hj:k≤j):a0n A root P G T m j :=
 ⟨h.ok.le hm,h.a4P,h.a5Y,Nat.le_trans h.a34 hj,Nat.le_trans h.ngr hj,h.cav,h.walk,h.leaf,h.a64,h.nodes,h.a7z,h.a3H,h.nodup,h.G1,h.a65⟩
theorem b2A {n:Int} (h:n≤50):(O4 n).length≤20:=by
 have:=B3 (n:=n.toNat) (by omega)
 unfold O4;simp;omega
theorem a98 {c:Y0} (h:I4 c=true):Y5 c = [99,97,118,101,97,116]++E7 c:=by unfold Y5 W9;rw [if_pos h]
theorem a0n.start (free : Bool) (seed : Tag) {A : D0} {root : u4} (he : 1 ≤ root.Number ∧ root.Number ≤ 2) {n : Int} (hA : H5 A 2) (hm : A.G4 = []) (hb : A.y2 = []) (h0 : 1 ≤ n) (h1 : n ≤ 50) :
    ∃ B P T,a7v A root n=(B,P,0)∧a0n B root P [] T 4 0∧a3I B∧B.K2=A.K2∧P.A8=n:=by
  obtain⟨b,t,s⟩:=hA.a0c (by omega) root.Key (m:=O4 n) (by have:=b2A h1;omega)
  have hbx:b.y2 = []:=s.boxes.trans hb
  refine⟨b,⟨root.Number,n,[],t⟩,[t],?_,⟨s.ok,⟨a8,he⟩,⟨h0,h1⟩,Nat.le_refl _,Nat.le_refl _,fun c hc=>(by cases hc),?_,a8,a8,fun u hu => ?_,fun i hi=>(by cases hi),fun g hg=>(by cases hg),List.nodup_nil,fun x hx=>(by rw [hbx] at hx;cases hx),fun _ x hx=>(by rw [hbx] at hx;cases hx)⟩,fun x hx => ?_,s.le.free,a8⟩
  · unfold a7v
    have hr:J6 root.Number n=true:=by unfold J6;simp;omega
    rw [if_neg (by rw [hr];decide),s.eq,F8 rfl]
  · show K8 (l9 b) root.Key [O4 n]=some [root.Key,t]
    show Y1 (l9 b) (some [root.Key]) (O4 n)=_
    show(if (l9 b root.Key (O4 n)).2 then some ([root.Key] ++ [(l9 b root.Key (O4 n)).1]) else none)=_
    rw [s.look];rfl
  · obtain rfl:=List.mem_singleton.1 hu;exact s.node
  · rcases s.a0s x hx with h|h|h
    · rw [hm] at h;cases h
    · exact⟨109,by rw [h];rfl,by decide,by decide⟩
    · exact⟨110,by rw [h];rfl,by decide,by decide⟩
theorem b6H {A : D0} {root t u : Tag} {n : Int} {l : List Y0} {c : Y0} {T : List Tag} (h : K8 (l9 A) root (D2 n l) = some (root :: T)) (h2 : (root :: T).getLastD default = t) (h3 : l9 A t (Y5 c) = (u, true)) :
    K8 (l9 A) root (D2 n (l ++ [c]))=some (root::(T ++ [u])):=by
  have e:D2 n (l ++ [c])=D2 n l ++ [Y5 c]:=by unfold D2;rw [List.map_append];rfl
  rw [e,b1d,h]
  show(if (l9 A ((root::T).getLastD default) (Y5 c)).2 then some ((root::T) ++ [(l9 A ((root::T).getLastD default) (Y5 c)).1]) else none)=_
  rw [h2,h3];rfl
theorem a8Y {T:List Tag} {u:Tag} {i:Nat} (h:i < T.length):(T ++ [u]).getD i default=T.getD i default:=by
 rw [List.getD_eq_getElem?_getD,List.getD_eq_getElem?_getD,List.getElem?_append_left h]
theorem a0n.att {A : D0} {root : u4} {P : Pass} {G H : List Dis} {T : List Tag} {n k : Nat} (h : a0n A root P G T n k) (hn : n < 1000) (hk : k < 8) {c : Y0} (hc : I4 c = true) (hcl : (E7 c).length ≤ 200) (hh : a3I A) :
    ∃ B Q u,a4h A P c=(B,Q,0)∧H5 B (n+2)∧P7 A B∧B.y2=A.y2∧B.F9=A.F9∧a3I B∧Q.D3=P.D3∧Q.A8=P.A8∧Q.j9=P.j9 ++ [c]∧Q.Tag=u ∧
      K8 (l9 B) root.Key (D2 Q.A8 Q.j9)=some (root.Key::(T ++ [u]))∧(l9 B u E9).2=true:=by
  obtain⟨b,t,s⟩:=h.ok.a0c (by omega) P.Tag (m:=Y5 c) (by rw [a98 hc,List.length_append];show 6+_≤_;omega)
  refine⟨b,⟨P.D3,P.A8,P.j9 ++ [c],t⟩,t,?_,s.ok,s.le,s.boxes,s.fresh,fun x hx => ?_,a8,a8,a8,a8,b6H (s.le.walk h.walk) h.leaf s.look,s.node⟩
  · unfold a4h
    have hm:a6w P c=false:=by
      have h1:=h.a34
      have h2:=a0Z P.j9
      unfold a6w a1l
      rw [decide_eq_false (by omega),decide_eq_false (by omega)];simp
    rw [if_neg (by rw [hc];decide),if_neg (by rw [hm];decide),s.eq,F8 rfl]
  · rcases s.a0s x hx with h|h|h
    · exact hh x h
    · exact⟨99,by rw [h,a98 hc];rfl,by decide,by decide⟩
    · exact⟨110,by rw [h];rfl,by decide,by decide⟩
theorem a0n.first {A : D0} {root : u4} {P : Pass} {G : List Dis} {T : List Tag} {n k : Nat} (h : a0n A root P G T n k) (hn : n < 1000) (hk : k < 8) {p : Pred} (hp : B0 p = true) (hh : a3I A) :
    ∃ B Q U,a4h A P ⟨false,p,0,[],[]⟩=(B,Q,0)∧a0n B root Q G U (n+2) (k+1)∧a3I B∧B.K2=A.K2:=by
  have hc:I4 ⟨false,p,0,[],[]⟩=true:=by unfold I4;simp [hp]
  obtain⟨B,Q,u,h1,h2,h3,h4,h5,h6,h7,h8,h9,h10,h11,h12⟩:=h.att (H:=G) hn hk (c:=⟨false,p,0,[],[]⟩) hc (by unfold E7;have:=H4 (O3 hp);simp;omega) hh
  refine⟨B,Q,T ++ [u],h1,⟨h2,⟨h7.trans h.a4P.1,h.a4P.2⟩,by rw [h8];exact h.a5Y,by rw [h9,List.length_append];have:=h.a34;simp;omega,Nat.le_succ_of_le h.ngr,fun c hc => ?_,h11,?_,?_,fun t ht => ?_,fun i hi h3' => ?_,fun g hg => ?_,h.nodup,?_,?_⟩,h6,h3.free⟩
  · rw [h9] at hc
    rcases List.mem_append.1 hc with h|h
    · exact a0n.cav ‹_› c h
    · obtain rfl:=List.mem_singleton.1 h
      exact⟨‹_›,by unfold E7;have:=H4 (O3 hp);simp;omega⟩
  · rw [h10,←List.cons_append,List.getLastD_eq_getLast?,List.getLast?_append];rfl
  · rw [h9,List.length_append,List.length_append,h.a64];rfl
  · rcases List.mem_append.1 ht with h'|h'
    · exact h3.looks (h.nodes t h')
    · obtain rfl:=List.mem_singleton.1 h';exact h12
  · by_cases e:i < P.j9.length
    · have e2:Q.j9[i]=P.j9[i]:=by simp only [h9];exact List.getElem_append_left e
      rw [e2] at h3' ⊢
      rw [a8Y (by rw [h.a64];omega)]
      exact(h.a7z i e h3').le h3 fun _ hg=>hg
    · have hi2:=hi
      rw [h9,List.length_append] at hi2
      have e3:i=P.j9.length:=by simp at hi2;omega
      have e2:Q.j9[i]=⟨false,p,0,[],[]⟩:=by simp only [h9];rw [List.getElem_append_right (by omega)];simp
      rw [e2] at h3';cases h3'
  · exact(h.a3H g hg).le h3 fun c hc=>by rw [h9];exact List.mem_append_left _ hc
  · intro x hx;rw [h5];exact h.G1 x (h4▸hx)
  · intro hf x hx;exact h.a65 (h3.free▸hf) x (h4▸hx)
theorem H5.b8M {a:D0} {n:Nat} (h:H5 a n) (hn:n < 60000) {y z:o5} (hy:y∈a.y2) (hz:z∈a.y2) (e:y.U4=z.U4):y.E4=z.E4:=by
 obtain⟨i,hi,rfl⟩:=List.getElem_of_mem hy
 obtain⟨j,hj,rfl⟩:=List.getElem_of_mem hz
 obtain⟨_,a0,a1,h1⟩:=h.box i hi
 obtain⟨_,b0,b1,h2⟩:=h.box j hj
 have hl:=h.boxes
 cases hf:a.K2 with
 | true =>
  rw [hf,if_pos rfl] at h1 h2
  rw [h1,h2] at e
  obtain rfl:=b5E (by omega) (by omega) (I7.ext (List.append_inj_left e (by rw [I7.len,I7.len])))
  rfl
 | false =>
  rw [hf,if_neg (by decide)] at h1 h2
  rw [h1,h2] at e
  have e2:=congrArg (List.take 8) e
  unfold Y8 V8 at e2
  simp only [List.append_assoc] at e2
  rw [List.take_left' (E1 _ _),List.take_left' (E1 _ _)] at e2
  exact a97 a0 (by omega) b0 (by omega) (b2y e2)
theorem b2B (a:D0) (k:Tag) (t:List UInt8) (l:List Pred) (p:Pred):W0 a k t (l ++ [p])=V9 a (W0 a k t l) p:=by
 unfold W0;rw [List.foldl_append];rfl
theorem a7A {a:D0} {t u:Tag} {p:Pred} (hp:B0 p=true) (h7:p.Kind≠7) (h:l9 a t (X3 p)=(u,true)):V9 a (some t) p=some u:=by
 unfold V9;simp only [Option.bind_some];rw [h,if_pos ⟨hp,h7,rfl⟩]
theorem a5Z {p:Pred} (h:B0 p=true):X3 p = [99,111,110,100,105,116,105,111,110]++x5 p:=by unfold X3 U9;rw [if_pos h]
theorem a7B {p:Pred} (h:B0 p=true):(X3 p).length≤40:=by
 rw [a5Z h,List.length_append];have:=H4 (O3 h);show 9+_≤_;omega
theorem a0n.restrict {A : D0} {root : u4} {P : Pass} {G : List Dis} {g : Dis} {T : List Tag} {n k : Nat} (h : a0n A root P (G ++ [g]) T n k) (hn : n < 1000) (hh : a3I A) {p : Pred} (hp : B0 p = true) (h7 : p.Kind ≠ 7) (hc : g.l8.length < 8) :
    ∃ B d,T5 A g p=(B,d,0)∧a0n B root P (G ++ [d]) T (n+1) k∧a3I B∧B.K2=A.K2∧d.l8.length=g.l8.length+1:=by
  obtain⟨B,t,s⟩:=h.ok.step (by omega) g.Tag (m:=X3 p) (by have:=a7B hp;omega)
  have hB:=h.mac s.le s.ok s.boxes
  have hstep:∀ bk:Tag,W0 A bk g.j8 g.l8=some g.Tag→W0 B bk g.j8 (g.l8 ++ [p])=some t:=fun bk hb=>by
    rw [b2B,s.le.dis hb,a7A hp h7 s.look]
  refine⟨B,⟨g.j8,g.l8 ++ [p],t⟩,?_,⟨hB.ok,hB.a4P,hB.a5Y,hB.a34,?_,hB.cav,hB.walk,hB.leaf,hB.a64,hB.nodes,fun i hi h3 => ?_,fun d hd => ?_,?_,hB.G1,hB.a65⟩,fun x hx => ?_,s.le.free,by simp⟩
  · unfold T5
    rw [if_neg (by rw [hp];decide),if_neg h7,if_neg (by omega),s.eq,F8 rfl]
  · have:=hB.ngr;simpa using this
  · obtain⟨key,bk,d,h1,h2,h4,h5,h6⟩:=(h.a7z i hi h3).th
    rcases List.mem_append.1 h1 with hg|hg
    · exact⟨key,bk,d,List.mem_append_left _ hg,s.le.look h2,s.le.opens h4,h5,s.le.dis h6⟩
    · obtain rfl:=List.mem_singleton.1 hg
      exact⟨key,bk,_,List.mem_append_right _ (List.mem_singleton.2 a8),s.le.look h2,s.le.opens h4,h5,hstep bk h6⟩
  · rcases List.mem_append.1 hd with hg|hg
    · exact hB.a3H d (List.mem_append_left _ hg)
    · obtain rfl:=List.mem_singleton.1 hg
      have hg0:=h.a3H g (List.mem_append_right _ (List.mem_singleton.2 rfl))
      obtain⟨bk,hb,hb2⟩:=hg0.key
      obtain⟨x,hx,hx2⟩:=hg0.box
      refine⟨hg0.tick,fun q hq => ?_,by dsimp only;rw [List.length_append];simp;omega,hg0.cav,⟨bk,hstep bk hb,fun hf=>hb2 (s.le.free▸hf)⟩,⟨x,s.le.c0u hx,hx2⟩⟩
      rcases List.mem_append.1 hq with h'|h'
      · exact hg0.con q h'
      · obtain rfl:=List.mem_singleton.1 h';exact⟨hp,h7⟩
  · have:=hB.nodup;simpa using this
  · rcases s.a0s x hx with h'|⟨_,h'⟩
    · exact hh x h'
    · exact⟨99,by rw [h',a5Z hp];rfl,by decide,by decide⟩
theorem a3a (k:Tag):a0f k ⟨0,150⟩=k.l ++ [0,150,1]:=by
 unfold a0f;rw [List.append_assoc];congr 1
 show J0 0++J0 150 = [0,150,1]
 simp [J0]
theorem a0n.c4q {A : D0} {root : u4} {P : Pass} {G : List Dis} {T : List Tag} {n k : Nat} (h : a0n A root P G T n k) (hn : n < 900) (hk : k < 8) (hh : a3I A) {c : b0Y} (hp0 : 0 ≤ c.G6) (hp7 : c.G6 ≤ 7) (s : Str) (hs : T8 s = true) :
    ∃ A1 b,a35 A c ⟨0,150⟩=(A1,b,0)∧H5 A1 (n+2)∧∃ A2 P2,b2q A1 P b=(A2,P2,0)∧A5 A2 c.Key b.j8=(b.Key.l ++ [0,150,1],0)∧H5 A2 (n+6)∧b.j8.length≤100 ∧
      ∃ A3 g U,a5W A2 b.Key b.j8 s=(A3,g,0)∧a0n A3 root P2 (G ++ [g]) U (n+8) (k+1)∧a3I A3∧A3.K2=A.K2∧g.l8.length=1:=by
  obtain⟨b1,kt,s1⟩:=h.ok.b1c (by omega)
  have hf0:=h.ok.a5P
  have hf1:=h.ok.a60
  have hfr:=s1.fresh
  obtain⟨A1,x,s2⟩:=s1.ok.b2z (by omega) c.Key (c:=b1.F9) (p:=a0f kt ⟨0,150⟩) (by omega) (by omega) (by rw [a3a,List.length_append,I7.len];decide)
  have hx:x.length=75:=by rw [s2.len,a3a,List.length_append,I7.len];rfl
  obtain⟨a2,kt2,s3⟩:=s2.ok.step (by omega) P.Tag (m:=A9 x) (by unfold A9;rw [List.length_append];simp;omega)
  obtain⟨a3,bx,s4⟩:=s3.ok.b2z (by omega) kt2 (c:=0) (p:=kt.l) (by omega) (by omega) (by rw [I7.len];decide)
  have hbx:bx.length=72:=by rw [s4.len,I7.len]
  have le13:=s1.le.trans (s2.le.trans (s3.le.trans s4.le))
  have hfr3:a3.F9=A.F9+1:=by rw [s4.fresh,s3.fresh,s2.fresh,s1.fresh]
  have hbox:∀ y∈a3.y2,y∈A.y2∨y=⟨c.Key,b1.F9,a0f kt ⟨0,150⟩,x⟩∨y=⟨kt2,0,kt.l,bx⟩:=fun y hy=>by
    rcases s4.boxes y hy with h'|h'
    · rw [s3.boxes] at h'
      rcases s2.boxes y h' with h'|h'
      · rw [s1.boxes] at h';exact Or.inl h'
      · exact Or.inr (Or.inl h')
    · exact Or.inr (Or.inr h')
  have h3:a0n a3 root P G T (n+4) k:=by
    refine h.le le13 s4.ok (fun y hy => ?_) fun hf y hy hl => ?_
    · rcases hbox y hy with h'|rfl|rfl
      · have:=h.G1 y h';omega
      · dsimp only;omega
      · dsimp only;omega
    · rcases hbox y hy with h'|rfl|rfl
      · exact h.a65 hf y h' hl
      · rw [a3a,List.length_append,I7.len] at hl;simp at hl
      · exact⟨_,congrArg (·.l) (s1.sym hf)⟩
  have hh3:a3I a3:=fun y hy=>by
    rw [s4.a0s] at hy
    rcases s3.a0s y hy with h'|⟨_,h'⟩
    · rw [s2.a0s,s1.a0s] at h';exact hh y h'
    · exact⟨115,by rw [h'];rfl,by decide,by decide⟩
  have hc:I4 ⟨true,default,c.G6,x,bx⟩=true:=by unfold I4;simp;omega
  have hcl:(E7 ⟨true,default,c.G6,x,bx⟩).length≤200:=by
    have l1:=B3 (n:=c.G6.toNat) (by omega)
    have l2:=B3 (n:=x.length) (by omega)
    have l3:=B3 (n:=bx.length) (by omega)
    unfold E7 a0R;simp;omega
  obtain⟨A2,Q,u,e1,ok2,le2,bx2,fr2,hh2,q1,q2,q3,q4,w2,nd2⟩:=h3.att (H:=G) (by omega) hk hc hcl hh3
  obtain⟨a5,gt,s5⟩:=ok2.step (by omega) kt (m:=a0D x) (by unfold a0D;rw [List.length_append];simp;omega)
  have hpo:B0 (a29 s)=true:=by unfold B0 a29;simp [hs]
  obtain⟨A3,t,s6⟩:=s5.ok.step (by omega) gt (m:=X3 (a29 s)) (by have:=a7B hpo;omega)
  have le36:P7 a3 A3:=le2.trans (s5.le.trans s6.le)
  have le16:P7 A A3:=le13.trans le36
  have hopen:A5 A2 c.Key x=(kt.l ++ [0,150,1],0):=by rw [←a3a];exact(s3.le.trans (s4.le.trans le2)).opens s2.opens
  have hdis:W0 A3 kt x [a29 s]=some t:=by
    unfold W0 a62
    rw [s6.le.look s5.look]
    exact a7A hpo (show(6:Int)≠7 by decide) s6.look
  have hbx6:A3.y2=a3.y2:=s6.boxes.trans (s5.boxes.trans bx2)
  have hfr6:A3.F9=a3.F9:=s6.fresh.trans (s5.fresh.trans fr2)
  obtain⟨i2,hi2,at2⟩:=s2.at_
  have hmem:(⟨c.Key,b1.F9,a0f kt ⟨0,150⟩,x⟩:o5)∈A3.y2:=by
    rw [hbx6];exact(s3.le.trans s4.le).c0u (at2▸List.getElem_mem hi2)
  have hlast:T.getD P.j9.length default=P.Tag:=by
    have h1:=h.leaf
    have h2:=h.a64
    have hne:T ≠ []:=by intro e;rw [e] at h2;simp at h2
    rw [List.getLastD_eq_getLast?,List.getLast?_cons,] at h1
    rw [List.getD_eq_getElem?_getD,show P.j9.length=T.length - 1 by omega,←List.getLast?_eq_getElem?]
    rw [←h1]
    cases hq:T.getLast? with
    | none=>exact absurd (List.getLast?_eq_none_iff.1 hq) hne
    | some z=>rfl
  refine⟨A1,⟨c.G6,kt,x⟩,?_,s2.ok,A2,Q,?_,hopen,ok2,by dsimp only;omega,A3,⟨x,[a29 s],t⟩,T ++ [u],?_,⟨s6.ok,⟨q1.trans h.a4P.1,h.a4P.2⟩,by rw [q2];exact h.a5Y,by rw [q3,List.length_append];have:=h.a34;simp;omega,by rw [List.length_append];have:=h.ngr;simp;omega,?_,(s5.le.trans s6.le).walk w2,?_,?_,fun v hv => ?_,fun i hi ht => ?_,fun g hg => ?_,?_,?_,?_⟩,?_,?_,rfl⟩
  · unfold a35
    have ht:(a0L ⟨0,150⟩&&decide (0≤c.G6)&&decide (c.G6≤7))=true:=by unfold a0L;simp;omega
    rw [if_neg (by rw [ht];decide),s1.eq,F8 rfl]
    dsimp only
    rw [s2.eq,F8 rfl]
  · unfold b2q
    dsimp only
    rw [s3.eq,F8 rfl]
    dsimp only
    rw [s4.eq,F8 rfl]
    exact e1
  · unfold a5W
    dsimp only
    rw [s5.eq,F8 rfl]
    unfold T5
    rw [if_neg (by rw [hpo];decide),if_neg (show ¬(a29 s).Kind=7 from(by show ¬(6:Int)=7;decide)),if_neg (by simp)]
    dsimp only
    rw [s6.eq,F8 rfl]
    rfl
  · intro d hd
    rw [q3] at hd
    rcases List.mem_append.1 hd with h'|h'
    · exact h.cav d h'
    · obtain rfl:=List.mem_singleton.1 h';exact⟨hc,hcl⟩
  · rw [q4,←List.cons_append,List.getLastD_eq_getLast?,List.getLast?_append];rfl
  · rw [q3,List.length_append,List.length_append,h.a64];rfl
  · rcases List.mem_append.1 hv with h'|h'
    · exact le16.looks (h.nodes v h')
    · obtain rfl:=List.mem_singleton.1 h';exact(s5.le.trans s6.le).looks nd2
  · by_cases e:i < P.j9.length
    · have e2:Q.j9[i]=P.j9[i]:=by simp only [q3];exact List.getElem_append_left e
      rw [e2] at ht ⊢
      rw [a8Y (by rw [h.a64];omega)]
      exact(h.a7z i e ht).le le16 fun _ hg=>List.mem_append_left _ hg
    · have hi2:=hi
      rw [q3,List.length_append] at hi2
      obtain rfl:i=P.j9.length:=by simp at hi2;omega
      have e2:Q.j9[P.j9.length]=⟨true,default,c.G6,x,bx⟩:=by simp only [q3];rw [List.getElem_append_right (by omega)];simp
      rw [e2,a8Y (by rw [h.a64];omega),hlast]
      exact⟨kt2,kt,⟨x,[a29 s],t⟩,List.mem_append_right _ (List.mem_singleton.2 a8),(s4.le.trans le36).look s3.look,le36.opens s4.opens,a8,hdis⟩
  · rcases List.mem_append.1 hg with h'|h'
    · exact(h.a3H g h').le le16 fun d hd=>by rw [q3];exact List.mem_append_left _ hd
    · obtain rfl:=List.mem_singleton.1 h'
      refine⟨by dsimp only;omega,fun q hq => ?_,(show 1≤8 by decide),⟨⟨true,default,c.G6,x,bx⟩,by rw [q3];exact List.mem_append_right _ (List.mem_singleton.2 rfl),rfl,rfl⟩,⟨kt,hdis,fun hf=>⟨_,s1.sym (le16.free▸hf)⟩⟩,⟨_,hmem,rfl,by dsimp only;omega⟩⟩
      obtain rfl:=List.mem_singleton.1 hq;exact⟨hpo,show(6:Int)≠7 by decide⟩
  · rw [List.map_append,List.nodup_append]
    refine⟨h.nodup,by simp,fun a ha b hb e => ?_⟩
    simp only [List.map_cons,List.map_nil,List.mem_singleton] at hb
    obtain⟨g,hg,rfl⟩:=List.mem_map.1 ha
    obtain⟨y,hy,hy1,hy2⟩:=(h.a3H g hg).box
    have:=s6.ok.b8M (by omega) (le16.c0u hy) hmem (by rw [hy1,e,hb])
    have:=h.G1 y hy
    dsimp only at *
    omega
  · intro y hy;rw [hbx6] at hy;rw [hfr6];exact h3.G1 y hy
  · intro hf y hy;rw [hbx6] at hy;exact h3.a65 (le36.free▸hf) y hy
  · intro y hy
    rcases s6.a0s y hy with h'|⟨_,h'⟩
    · rcases s5.a0s y h' with h'|⟨_,h'⟩
      · exact hh2 y h'
      · exact⟨103,by rw [h'];rfl,by decide,by decide⟩
    · exact⟨99,by rw [h',a5Z hpo];rfl,by decide,by decide⟩
  · exact le16.free
abbrev Ring:=C4
abbrev Epo:=u4
def a0T (r:Ring) (n:Int):Option Epo:=r.Live.find? fun e=>decide (e.Number=n)
def a2g (l:List Bnd) (t:List UInt8):Option Bnd:=l.find? fun d=>decide (d.j8=t)
def a0U (f:Nat→Int) (n:Nat):Int:=(((List.range n).map f).find? fun e=>decide (e≠0)).getD 0
theorem a00 (f:Nat→Int) (n:Nat):a0U f (n+1)=if a0U f n≠0 then a0U f n else f n:=by
 unfold a0U
 rw [List.range_succ,List.map_append,List.find?_append]
 cases h:((List.range n).map f).find? fun e=>decide (e≠0) with
 | some e =>
  have:=List.find?_some h
  simp only [ne_eq,decide_not,Bool.not_eq_true',decide_eq_false_iff_not] at this
  simp [this]
 | none =>
  simp only [Option.none_or,Option.getD_none,ne_eq,not_true_eq_false,if_false]
  by_cases h0:f n=0
  ·simp [h0]
  ·simp [h0]
theorem b2C {f:Nat→Int} {n:Nat}:a0U f n=0↔∀ i,i < n→f i=0:=by
 induction n with
 | zero=>exact⟨fun _ i hi=>(by omega),fun _=>rfl⟩
 | succ n ih =>
  rw [a00]
  by_cases h:a0U f n=0
  ·rw [if_neg (by simpa using h)]
   exact⟨fun h2 i hi=>(by rcases Nat.lt_or_ge i n with h3|h3;exact ih.1 h i h3;(obtain rfl:i=n:=by omega);exact h2),fun h2=>h2 n (by omega)⟩
  ·rw [if_pos h]
   exact⟨fun h2=>absurd h2 h,fun h2=>absurd (ih.2 fun i hi=>h2 i (by omega)) h⟩
theorem a99 {f:Nat→Int} {n k:Nat} (hk:k < n) (h:a0U f k=0) (h2:f k≠0):a0U f n=f k:=by
 induction n with
 | zero=>omega
 | succ n ih =>
  rw [a00]
  rcases Nat.lt_or_ge k n with h3|h3
  ·have:=ih h3
   rw [if_pos (by rw [this];exact h2),this]
  ·obtain rfl:k=n:=by omega
   rw [if_neg (by simpa using h)]
def W2 (a:D0) (b:Q4) (c:Y0) (tag leaf:Tag):Int :=
 if (l9 a tag (A9 c.j8)).2=false then 14 else
 if (A5 a (l9 a tag (A9 c.j8)).1 c.U4).2≠0∨(A5 a (l9 a tag (A9 c.j8)).1 c.U4).1.length≠32 then 14 else
 match a2g b.j4 c.j8 with
 | none=>17
 | some d =>
  if (a0t a (K6 default (A5 a (l9 a tag (A9 c.j8)).1 c.U4).1) c.j8 d.l8).2=false then 20 else
  if M8 a (a0t a (K6 default (A5 a (l9 a tag (A9 c.j8)).1 c.U4).1) c.j8 d.l8).1 leaf b.Request≠(d.Proof,true) then 20 else 0
def a2e (b:Q4) (d:Bnd):Bool := !(b.j9.any fun c=>c.Q2&&decide (c.j8=d.j8))
def a4Q (b:Q4):Bool:=b.j4.any (a2e b)
def thE (a:D0) (b:Q4) (T:List Tag) (i:Nat):Int:=if (b.j9.getD i default).Q2 then W2 a b (b.j9.getD i default) (T.getD i default) (T.getLastD default) else 0
def b6I (a:D0) (b:Q4) (root:Epo):u3×Int :=
 if (U7 a root b.A8 b.j9).2≠0 then (default,19) else
 if V0 a ((U7 a root b.A8 b.j9).1.getLastD default) b.Request≠(b.Proof,true)∨(a0e a (U7 a root b.A8 b.j9).1).2≠0 then (default,19) else
 if a0U (thE a b (U7 a root b.A8 b.j9).1) b.j9.length≠0 then (default,a0U (thE a b (U7 a root b.A8 b.j9).1) b.j9.length) else
 if a4Q b then (default,18) else (⟨(a0e a (U7 a root b.A8 b.j9).1).1,(U7 a root b.A8 b.j9).1.getLastD default⟩,0)
def a6x (a:D0) (g:Ring) (b:Q4):u3×Int :=
 if L7 b≠0 then (default,L7 b) else
 match a0T g b.D3 with
 | none=>(default,16)
 | some root=>b6I a b root
theorem b8N {a:D0} {g:Ring} {b:Q4} (h:L7 b≠0):a6x a g b=(default,L7 b):=by unfold a6x;rw [if_pos h]
theorem c1o {a:D0} {g:Ring} {b:Q4} (h:L7 b=0) (h2:a0T g b.D3=none):a6x a g b=(default,16):=by unfold a6x;rw [if_neg (by simpa using h),h2]
theorem a7Z {a:D0} {g:Ring} {b:Q4} {root:Epo} (h:L7 b=0) (h2:a0T g b.D3=some root):a6x a g b=b6I a b root:=by unfold a6x;rw [if_neg (by simpa using h),h2]
theorem c1p {a:D0} {b:Q4} {root:Epo} (h:(U7 a root b.A8 b.j9).2≠0):b6I a b root=(default,19):=by unfold b6I;rw [if_pos h]
theorem a71 {a : D0} {b : Q4} {root : Epo} {T : List Tag} (h : U7 a root b.A8 b.j9 = (T, 0)) : b6I a b root =
    if V0 a (T.getLastD default) b.Request≠(b.Proof,true)∨(a0e a T).2≠0 then (default,19) else
    if a0U (thE a b T) b.j9.length≠0 then (default,a0U (thE a b T) b.j9.length) else
    if a4Q b then (default,18) else (⟨(a0e a T).1,T.getLastD default⟩,0):=by
  unfold b6I;rw [h];rfl
structure b8O (a:D0) (b:Q4) (c:Y0) (t leaf:Tag):Prop where
 th:∃ key plain d u,l9 a t (A9 c.j8)=(key,true)∧A5 a key c.U4=(plain.l,0)∧a2g b.j4 c.j8=some d∧W0 a plain c.j8 d.l8=some u∧l9 a u (X4 leaf b.Request)=(d.Proof,true)
theorem a66 {l:List UInt8} (h:l.length=32):(K6 (default:Tag) l).l=l:=by
 show l.take 32++(default:Tag).l.drop l.length=l
 rw [List.take_of_length_le (by omega),List.drop_of_length_le (by rw [I7.len];omega),List.append_nil]
theorem a6y (t:Tag):K6 (default:Tag) t.l=t:=I7.ext (a66 t.len)
theorem b2D {a:D0} {b:Q4} {c:Y0} {t leaf:Tag} (hr:S2 b.Request=true):W2 a b c t leaf=0↔b8O a b c t leaf:=by
 constructor
 ·intro h
  unfold W2 at h
  split at h
  ·cases h
  ·next h1 =>
   split at h
   ·cases h
   ·next h2 =>
    have h1:(l9 a t (A9 c.j8)).2=true:=by simpa using h1
    have h2:(A5 a (l9 a t (A9 c.j8)).1 c.U4).2=0∧(A5 a (l9 a t (A9 c.j8)).1 c.U4).1.length=32:=by simpa using h2
    split at h
    ·cases h
    ·next d hd =>
     split at h
     ·cases h
     ·next h3 =>
      split at h
      ·cases h
      ·next h4 =>
       have h3:(W0 a (K6 default (A5 a (l9 a t (A9 c.j8)).1 c.U4).1) c.j8 d.l8).isSome=true:=by unfold a0t at h3;exact eq_true_of_ne_false h3
       obtain⟨u,hu⟩:=Option.isSome_iff_exists.1 h3
       have h4:M8 a u leaf b.Request=(d.Proof,true):=by
        have:M8 a (a0t a (K6 default (A5 a (l9 a t (A9 c.j8)).1 c.U4).1) c.j8 d.l8).1 leaf b.Request=(d.Proof,true):=Decidable.not_not.1 h4
        unfold a0t at this;rw [hu] at this;exact this
       unfold M8 at h4
       rw [if_pos hr] at h4
       exact⟨_,_,d,u,Prod.ext a8 h1,Prod.ext (by rw [a66 h2.2]) h2.1,hd,hu,h4⟩
 ·rintro⟨key,plain,d,u,h1,h2,h3,h4,h5⟩
  unfold W2
  have hp:plain.l.length=32:=plain.len
  rw [h1];dsimp only
  rw [h2];dsimp only
  rw [if_neg (by decide),if_neg (by simp [hp]),h3]
  dsimp only
  unfold a0t M8
  rw [a6y,h4,if_neg (by simp),if_pos hr]
  rw [if_neg (by simp [h5])]
structure c1q (a:D0) (k:Tag) (b:Q4) (T:List Tag):Prop where
 chk:L7 b=0
 walk:K8 (l9 a) k (D2 b.A8 b.j9)=some (k::T)
 a64:T.length=b.j9.length+1
 nodes:∀ t∈T,(l9 a t E9).2=true
 proof:l9 a (T.getLastD default) (a27 b.Request)=(b.Proof,true)
 a7z:∀ i (h:i < b.j9.length),b.j9[i].Q2=true→b8O a b b.j9[i] (T.getD i default) (T.getLastD default)
 extra:a4Q b=false
theorem a5c {b:Q4} (h:L7 b=0):a9Y b:=by
 unfold L7 at h
 split at h
 ·next h1=>exact absurd h h1
 ·next h1=>exact a4L (by simpa using h1)
theorem a50 {a:D0}:∀ {l:List Tag} {s:List Tag},(∀ t∈l,(l9 a t E9).2=true)→∃ r,l.foldl (a0c a) (some s)=some (s++r)∧r.length=l.length
 | [],s,_=>⟨[],by simp,rfl⟩
 | t::l,s,h=>by
  rw [List.foldl_cons]
  have:a0c a (some s) t=some (s ++ [(l9 a t E9).1]):=by
   show(if (l9 a t E9).2 then some (s ++ [(l9 a t E9).1]) else none)=_
   rw [if_pos (h t (by simp))]
  rw [this]
  obtain⟨r,h1,h2⟩:=a50 (a:=a) (l:=l) (s:=s ++ [(l9 a t E9).1]) fun u hu=>h u (by simp [hu])
  exact⟨(l9 a t E9).1::r,by rw [h1,List.append_assoc];rfl,by simp [h2]⟩
theorem a8Z {a:D0}:∀ {l:List Tag} {s r:List Tag},l.foldl (a0c a) (some s)=some r→∀ t∈l,(l9 a t E9).2=true
 | [],_,_,_=>fun t ht=>(by cases ht)
 | t::l,s,r,h=>by
  rw [List.foldl_cons] at h
  cases h2:(l9 a t E9).2 with
  | false =>
   have:a0c a (some s) t=none:=by
    show(if (l9 a t E9).2 then some (s ++ [(l9 a t E9).1]) else none)=_
    rw [h2];rfl
   rw [this,a8K] at h;cases h
  | true =>
   have:a0c a (some s) t=some (s ++ [(l9 a t E9).1]):=by
    show(if (l9 a t E9).2 then some (s ++ [(l9 a t E9).1]) else none)=_
    rw [h2];rfl
   rw [this] at h
   intro u hu
   rcases List.mem_cons.1 hu with rfl|hu
   ·exact h2
   ·exact a8Z h u hu
theorem b6J {a:D0} {l:List Tag}:(a0e a l).2=0↔∀ t∈l,(l9 a t E9).2=true:=by
 unfold a0e a0d
 constructor
 ·intro h
  split at h
  ·next r hr=>exact a8Z hr
  ·cases h
 ·intro h
  obtain⟨r,h1,_⟩:=a50 (s := []) h
  rw [h1]
theorem b4u {a:D0} {l:List Tag} (h:∀ t∈l,(l9 a t E9).2=true):(a0e a l).1.length=l.length:=by
 obtain⟨r,h1,h2⟩:=a50 (s := []) h
 unfold a0e a0d
 rw [h1];simpa using h2
theorem b2E {a:D0} {root:Epo} {n:Int} {l:List Y0} {T:List Tag} (h1:J6 root.Number n=true) (h2:l.all I4=true) (h:K8 (l9 a) root.Key (D2 n l)=some (root.Key::T)):U7 a root n l=(T,0):=by
 unfold U7;rw [if_neg (by rw [h1];decide),if_neg (by rw [h2];decide),h];rfl
theorem a80 {a:D0} {root:Epo} {n:Int} {l:List Y0} (h:(U7 a root n l).2=0):∃ T,K8 (l9 a) root.Key (D2 n l)=some (root.Key::T)∧T.length=l.length+1∧U7 a root n l=(T,0):=by
 unfold U7 at *
 split at h
 ·cases h
 ·next h1 =>
  split at h
  ·cases h
  ·next h2 =>
   rw [if_neg h1,if_neg h2]
   split at h
   ·next t ht =>
    obtain⟨T,e,hl⟩:=a5V (k:=root.Key) (show(D2 n l).foldl (Y1 (l9 a)) (some [root.Key])=some t from ht)
    refine⟨T,by rw [ht,e];rfl,by rw [hl];simp [D2],by rw [e];rfl⟩
   ·cases h
theorem b4v {g:Ring} {n:Int} {root:Epo} (h:a0T g n=some root):root.Number=n:=by
 have:=List.find?_some h;simpa using this
theorem a5d {α:Type} [Inhabited α] {l:List α} {i:Nat} (h:i < l.length):l.getD i default=l[i]:=by
 rw [List.getD_eq_getElem?_getD,List.getElem?_eq_getElem h];rfl
theorem b8P {a:D0} {g:Ring} {b:Q4} {root:Epo} {T:List Tag} (he:a0T g b.D3=some root) (h:c1q a root.Key b T):a6x a g b=(⟨(a0e a T).1,T.getLastD default⟩,0):=by
 have hb:=a5c h.chk
 have hn:=b4v he
 have hr:J6 root.Number b.A8=true:=by have:=hb.num;unfold J6;simp;omega
 have ht:=b2E hr (List.all_eq_true.2 hb.cav) h.walk
 have hq:S2 b.Request=true:=by have:=hb.range;unfold P4 at this;simp only [Bool.and_eq_true] at this;exact this.1
 rw [a7Z h.chk he,a71 ht]
 have hf:a0U (thE a b T) b.j9.length=0:=b2C.2 fun i hi=>by
  unfold thE
  rw [a5d hi]
  split
  ·next h3=>exact(b2D hq).2 (h.a7z i hi h3)
  ·rfl
 rw [if_neg (by rw [b6J.2 h.nodes];unfold V0;rw [if_pos hq,h.proof];simp),if_neg (by rw [hf];simp),if_neg (by rw [h.extra];decide)]
theorem b1e {α:Type} (l:List α) (p:α→Bool):decide (0≤idx l p)=l.any p:=by
 rcases Bool.eq_false_or_eq_true (l.any p) with h|h
 ·rw [h]
  rw [List.any_eq_true] at h
  obtain⟨x,hx,hp⟩:=h
  have h2:=List.findIdx_lt_length_of_exists ⟨x,hx,hp⟩
  unfold idx;rw [if_pos h2];simp
 ·rw [h]
  rw [List.any_eq_false] at h
  rw [a3D fun j hj=>by simpa using h _ (List.getElem_mem hj)];rfl
theorem a81 (l:List Bnd) (p:Bnd→Bool):u1 gl prog 99 [.v l,.a8w prog p] (fun r=>r = .v (idx l p)):=by
 refine u1.jn func99 (by kernel_rfl) 19 rfl fun C hC hG => ?_
 refine .q 6 hG ?_
 refine .T7 0 a8 fun hl0 => ?_
 refine .q 6 hG ?_
 refine .D9 (α:=Nat) [(0,_),(1,_),(7,_)] (fun k R=>(8,.v (k:Int))::R) (fun k => []) (fun k=>k≤l.length∧∀ j (hj:j < l.length),j < k→p l[j]=false) (fun k=>l.length - k) (0) (.c2 a8 a8 (.cons a8 (.nil _))) ?_ (.c2 a8 a8 (.c2 a8 a8 (.nil _))) (a8) fun k hF => ?_
 ·simp
 obtain⟨h1,h2⟩:=hF
 refine .q 6 hG ⟨fun hc9 => ?_,fun hc9 => ?_⟩
 ·refine .q 13 hG ?_
  refine .ix (by omega) (by omega) ?_
  refine .q 1 hG ?_
  refine .p (.a4z a8 (.t a8) ?_)
  refine .q 1 hG ?_
  refine .cond (.t a8) (fun hc16 => ?_) (fun hc16 => ?_)
  ·refine .q 6 hG ?_
   refine .e1 a8 a8 ?_
   rw [a8F (by omega) (by simpa using hc16) h2]
  ·refine .q 2 hG ?_
   refine .ad (by omega) (by omega) ?_
   refine .q 2 hG ?_
   refine⟨k+1,.c2 rfl rfl (.c2 rfl rfl (.nil _)),rfl,?_,by omega⟩
   refine⟨by omega,fun j hj hjk => ?_⟩;rcases Nat.lt_or_ge j k with h|h;exact h2 j hj h;(obtain rfl:j=k:=by omega);simpa using hc16
 ·refine .q 3 hG ?_
  refine .p (.assign (.i a8) ?_)
  refine .q 2 hG ?_
  refine .e1 a8 a8 ?_
  rw [a3D fun j hj=>h2 j hj (by omega)]
theorem a1P (l:List Bnd) (p:Bnd→Bool):u1 gl prog 150 [.v l,.a8w prog p] (fun r=>r = .v (l.any p)):=by
 refine u1.jn func150 (by kernel_rfl) 9 rfl fun C hC hG => ?_
 refine .q 8 hG ?_
 refine .p (.o7 hG (a81 _ _) (.cons (.t a8) (.cons (.t a8) .nil)) ?_)
 refine .q 4 hG ?_
 refine .e1 a8 a8 ?_
 rw [b1e]
theorem b2F (l:List Pred) (p:Pred→Bool):u1 gl prog 210 [.v l,.a8w prog p] (fun r=>r = .v (idx l p)):=by
 refine u1.jn func210 (by kernel_rfl) 19 rfl fun C hC hG => ?_
 refine .q 6 hG ?_
 refine .T7 0 a8 fun hl0 => ?_
 refine .q 6 hG ?_
 refine .D9 (α:=Nat) [(0,_),(1,_),(7,_)] (fun k R=>(8,.v (k:Int))::R) (fun k => []) (fun k=>k≤l.length∧∀ j (hj:j < l.length),j < k→p l[j]=false) (fun k=>l.length - k) (0) (.c2 a8 a8 (.cons a8 (.nil _))) ?_ (.c2 a8 a8 (.c2 a8 a8 (.nil _))) (a8) fun k hF => ?_
 ·simp
 obtain⟨h1,h2⟩:=hF
 refine .q 6 hG ⟨fun hc9 => ?_,fun hc9 => ?_⟩
 ·refine .q 13 hG ?_
  refine .ix (by omega) (by omega) ?_
  refine .q 1 hG ?_
  refine .p (.a4z a8 (.t a8) ?_)
  refine .q 1 hG ?_
  refine .cond (.t a8) (fun hc16 => ?_) (fun hc16 => ?_)
  ·refine .q 6 hG ?_
   refine .e1 a8 a8 ?_
   rw [a8F (by omega) (by simpa using hc16) h2]
  ·refine .q 2 hG ?_
   refine .ad (by omega) (by omega) ?_
   refine .q 2 hG ?_
   refine⟨k+1,.c2 rfl rfl (.c2 rfl rfl (.nil _)),rfl,?_,by omega⟩
   refine⟨by omega,fun j hj hjk => ?_⟩;rcases Nat.lt_or_ge j k with h|h;exact h2 j hj h;(obtain rfl:j=k:=by omega);simpa using hc16
 ·refine .q 3 hG ?_
  refine .p (.assign (.i a8) ?_)
  refine .q 2 hG ?_
  refine .e1 a8 a8 ?_
  rw [a3D fun j hj=>h2 j hj (by omega)]
theorem a4R (l:List Pred) (p:Pred→Bool):u1 gl prog 189 [.v l,.a8w prog p] (fun r=>r = .v (l.any p)):=by
 refine u1.jn func189 (by kernel_rfl) 9 rfl fun C hC hG => ?_
 refine .q 8 hG ?_
 refine .p (.o7 hG (b2F _ _) (.cons (.t a8) (.cons (.t a8) .nil)) ?_)
 refine .q 4 hG ?_
 refine .e1 a8 a8 ?_
 rw [b1e]
theorem b4w (l:List Y0) (p:Y0→Bool):u1 gl prog 187 [.v l,.a8w prog p] (fun r=>r = .v (idx l p)):=by
 refine u1.jn func187 (by kernel_rfl) 19 rfl fun C hC hG => ?_
 refine .q 6 hG ?_
 refine .T7 0 a8 fun hl0 => ?_
 refine .q 6 hG ?_
 refine .D9 (α:=Nat) [(0,_),(1,_),(7,_)] (fun k R=>(8,.v (k:Int))::R) (fun k => []) (fun k=>k≤l.length∧∀ j (hj:j < l.length),j < k→p l[j]=false) (fun k=>l.length - k) (0) (.c2 a8 a8 (.cons a8 (.nil _))) ?_ (.c2 a8 a8 (.c2 a8 a8 (.nil _))) (a8) fun k hF => ?_
 ·simp
 obtain⟨h1,h2⟩:=hF
 refine .q 6 hG ⟨fun hc9 => ?_,fun hc9 => ?_⟩
 ·refine .q 13 hG ?_
  refine .ix (by omega) (by omega) ?_
  refine .q 1 hG ?_
  refine .p (.a4z a8 (.t a8) ?_)
  refine .q 1 hG ?_
  refine .cond (.t a8) (fun hc16 => ?_) (fun hc16 => ?_)
  ·refine .q 6 hG ?_
   refine .e1 a8 a8 ?_
   rw [a8F (by omega) (by simpa using hc16) h2]
  ·refine .q 2 hG ?_
   refine .ad (by omega) (by omega) ?_
   refine .q 2 hG ?_
   refine⟨k+1,.c2 rfl rfl (.c2 rfl rfl (.nil _)),rfl,?_,by omega⟩
   refine⟨by omega,fun j hj hjk => ?_⟩;rcases Nat.lt_or_ge j k with h|h;exact h2 j hj h;(obtain rfl:j=k:=by omega);simpa using hc16
 ·refine .q 3 hG ?_
  refine .p (.assign (.i a8) ?_)
  refine .q 2 hG ?_
  refine .e1 a8 a8 ?_
  rw [a3D fun j hj=>h2 j hj (by omega)]
theorem a9r (l:List Y0) (p:Y0→Bool):u1 gl prog 147 [.v l,.a8w prog p] (fun r=>r = .v (l.any p)):=by
 refine u1.jn func147 (by kernel_rfl) 9 rfl fun C hC hG => ?_
 refine .q 8 hG ?_
 refine .p (.o7 hG (b4w _ _) (.cons (.t a8) (.cons (.t a8) .nil)) ?_)
 refine .q 4 hG ?_
 refine .e1 a8 a8 ?_
 rw [b1e]
theorem c0z (n:Nat):decide ((8:Int) < (n:Int))=decide (8 < n):=decide_eq_decide.2 (by omega)
theorem b8Q (n:Nat):decide ((64:Int) < (n:Int))=decide (64 < n):=decide_eq_decide.2 (by omega)
theorem c1r (n:Nat):decide ((n:Int) < 1)=decide (n < 1):=decide_eq_decide.2 (by omega)
theorem b2G (n:Nat):decide ((1024:Int) < (n:Int))=decide (1024 < n):=decide_eq_decide.2 (by omega)
theorem c2e (d:Bnd):u1 gl prog 186 [.v d] (fun r=>r = .v (a1N d)):=by
 refine u1.jn func186 (by kernel_rfl) 7 rfl fun C hC hG => ?_
 refine .q 3 hG fun b1 => ?_
 refine .q 11 hG ?_
 refine .e1 a8 a8 ?_
 exact congrArg AV.v (c0z _)
theorem b8R (b:Q4) (hl:b.j9.length≤1000000):u1 gl prog 146 [.v b] (fun r=>r = .v (S6 b)):=by
 refine u1.jn func146 (by kernel_rfl) 31 rfl fun C hC hG => ?_
 refine .q 3 hG fun b1 => ?_
 refine .q 3 hG ?_
 refine .A0 hC .z (.M1 1 a8 .z ?_)
 have hfl:=a0Z b.j9
 refine .draw (by kernel_rfl) 9 [[],[(4,0)],[(5,1)],[],[(7,3)],[(8,4)],[(9,5)],[(6,2),(10,6)],[(11,7)]] a8 (by kernel_rfl) a8 ?_
 refine⟨_,j6.A7 p9.l3 (fun x=>x.j9) V4 a8 (fun _=>a8) (.t a8) a8,?_⟩
 refine⟨_,j6.G2 a8A (.t a8) a8,?_⟩
 refine⟨_,j6.len underlying24 (.t a8) a8,?_⟩
 refine⟨_,j6.A7 p9.l3 (fun x=>x.j9) V4 a8 (fun _=>a8) (.t a8) a8,?_⟩
 refine⟨_,j6.G2 a8A (.t a8) a8,?_⟩
 refine⟨_,j6.o7 hG (b2r _ hl) (.cons (.t a8) .nil) a8,?_⟩
 refine⟨_,j6.len underlying83 (.t a8) a8,?_⟩
 refine⟨_,j6.sub (.t a8) (.t a8) (by omega) (by omega) a8,?_⟩
 refine⟨_,j6.assign (.t a8) a8,?_⟩
 show D5 _ _ _ _ _ [] ((3,_)::(11,_)::(10,_)::(9,_)::(8,_)::(7,_)::(6,_)::(5,_)::(4,_)::_) _
 refine .q 20 hG ?_
 refine .go 26 a8 (.t a8) (fun hg29 => .o7 hG (a1P _ _) (.cons (.q a8 hg29) (.cons (.a9Q hG (fun x=>c2e x)) .nil)) a8) ?_
 refine .q 4 hG ?_
 refine .e1 a8 a8 ?_
 refine congrArg AV.v ?_
 unfold S6 a1l
 rw [b8Q,c0z]
theorem c2f (p:Pred):u1 gl prog 190 [.v p] (fun r=>r = .v (!B0 p)):=by
 refine u1.jn func190 (by kernel_rfl) 6 rfl fun C hC hG => ?_
 refine .q 3 hG fun b1 => ?_
 refine .q 5 hG ?_
 refine .k hG (a4J _) ?_
 refine .q 4 hG ?_
 refine .e1 a8 a8 ?_
 rfl
theorem b2H (d:Bnd):u1 gl prog 151 [.v d] (fun r=>r = .v (a3p d)):=by
 refine u1.jn func151 (by kernel_rfl) 18 rfl fun C hC hG => ?_
 refine .q 3 hG fun b1 => ?_
 refine .q 17 hG ?_
 refine .go 13 a8 (.t a8) (fun hg16 => .o7 hG (a4R _ _) (.cons (.q a8 hg16) (.cons (.a9Q hG (fun x=>c2f x)) .nil)) a8) ?_
 refine .q 4 hG ?_
 refine .e1 a8 a8 ?_
 refine congrArg AV.v ?_
 unfold a3p
 rw [c1r,b2G]
theorem b8S (p:Pred):u1 gl prog 191 [.v p] (fun r=>r = .v (decide (p.Kind=7))):=by
 refine u1.jn func191 (by kernel_rfl) 6 rfl fun C hC hG => ?_
 refine .q 3 hG fun b1 => ?_
 refine .q 10 hG ?_
 refine .e1 a8 a8 ?_
 rfl
theorem c0A (d:Bnd):u1 gl prog 152 [.v d] (fun r=>r = .v (a3G d)):=by
 refine u1.jn func152 (by kernel_rfl) 6 rfl fun C hC hG => ?_
 refine .q 3 hG fun b1 => ?_
 refine .q 6 hG ?_
 refine .p (.o7 hG (a4R _ _) (.cons (.t a8) (.cons (.a9Q hG (fun x=>b8S x)) .nil)) ?_)
 refine .q 3 hG ?_
 refine .e1 a8 a8 ?_
 rfl
theorem b8T (x d:Bnd):u1 gl prog 192 [.v x,.p d] (fun r=>r = .v (decide (x.j8=d.j8))):=by
 refine u1.jn func192 (by kernel_rfl) 9 rfl fun C hC hG => ?_
 refine .q 3 hG fun b2 => ?_
 refine .q 8 hG ?_
 refine .p (.o7 hG (a1h _ _) (.cons (.t a8) (.cons (.t a8) .nil)) ?_)
 refine .q 3 hG ?_
 refine .e1 a8 a8 ?_
 rfl
theorem b1f {l:List Bnd} {k:Nat} (h:k≤l.length) (h2:V1 l k=true):a3q l=true:=by
 unfold a3q V1 at *
 rw [List.any_eq_true] at h2 ⊢
 obtain⟨i,hi,h3⟩:=h2
 exact⟨i,List.mem_range.2 (by have:=List.mem_range.1 hi;omega),h3⟩
theorem c0B (l:List Bnd):u1 gl prog 153 [.v l] (fun r=>r = .v (a3q l)):=by
 refine u1.jn func153 (by kernel_rfl) 18 rfl fun C hC hG => ?_
 refine .q 6 hG ?_
 refine .T7 0 a8 fun hl0 => ?_
 refine .q 6 hG ?_
 refine .D9 (α:=Nat) [(0,_),(5,_),(6,_)] (fun k R=>(7,.v (k:Int))::R) (fun k => []) (fun k=>k≤l.length∧V1 l k=false) (fun k=>l.length - k) (0) (.c2 a8 a8 (.cons a8 (.nil _))) ?_ (.c2 a8 a8 (.c2 a8 a8 (.nil _))) (a8) fun k hF => ?_
 ·exact⟨Nat.zero_le _,a8⟩
 obtain⟨h1,h2⟩:=hF
 refine .q 6 hG ⟨fun hc8 => ?_,fun hc8 => ?_⟩
 ·refine .q 6 hG ?_
  refine .ix (by omega) (by omega) ?_
  refine .q 2 hG fun b4 => ?_
  refine .q 4 hG ?_
  refine .A0 hC .z (.M1 4 a8 .z (.drop ?_))
  refine .q 3 hG ?_
  refine .p (.b6h a1f underlying27 (.t a8) (.t a8) (by omega) (by omega) (.p (.b0F hG (fun x=>b8T x _) (.cons (.t a8) .nil) (.p (.o7 hG (a1P _ _) (.cons (.t a8) (.cons (.t a8) .nil)) ?_)))))
  refine .q 1 hG ?_
  refine .cond (.t a8) (fun hc16 => ?_) (fun hc16 => ?_)
  ·refine .q 5 hG ?_
   refine .e1 a8 a8 ?_
   rw [b1f (k:=k+1) (by omega) (by rw [a33 l k (by omega)];exact Bool.or_eq_true_iff.2 (Or.inr hc16))]
  ·refine .q 2 hG ?_
   refine .ad (by omega) (by omega) ?_
   refine .q 2 hG ?_
   refine⟨k+1,.c2 rfl rfl (.c2 rfl rfl (.nil _)),rfl,?_,by omega⟩
   exact⟨by omega,by rw [a33 l k (by omega),h2];exact hc16⟩
 ·refine .q 6 hG ?_
  refine .e1 a8 a8 ?_
  obtain rfl:k=l.length:=by omega
  exact congrArg AV.v h2.symm
theorem b8U (c:Y0):u1 gl prog 148 [.v c] (fun r=>r = .v (!I4 c)):=by
 refine u1.jn func148 (by kernel_rfl) 6 rfl fun C hC hG => ?_
 refine .q 3 hG fun b1 => ?_
 refine .q 5 hG ?_
 refine .k hG (a8P _) ?_
 refine .q 4 hG ?_
 refine .e1 a8 a8 ?_
 rfl
theorem b2I {b:Q4} (h:(!S2 b.Request||decide (b.D3 < 1)||decide (1000 < b.D3)||decide (b.A8 < 1)||decide (1073741824 < b.A8))=true):P4 b=false:=by
 simp only [Bool.or_eq_true,Bool.not_eq_true',decide_eq_true_eq] at h
 unfold P4
 rcases h with (((h|h)|h)|h)|h
 ·rw [h];rfl
 all_goals (cases S2 b.Request<;>simp<;>omega)
theorem a01 {b:Q4} (h:(!S2 b.Request||decide (b.D3 < 1)||decide (1000 < b.D3)||decide (b.A8 < 1)||decide (1073741824 < b.A8))=false):P4 b=true:=by
 simp only [Bool.or_eq_false_iff,Bool.not_eq_false',decide_eq_false_iff_not] at h
 unfold P4
 rw [h.1.1.1.1];simp;omega
theorem c0C (b:Q4) (hl:b.j9.length≤1000000):u1 gl prog 87 [.v b] (fun r=>r = .v (F7 b)):=by
 refine u1.jn func87 (by kernel_rfl) 48 rfl fun C hC hG => ?_
 refine .q 3 hG fun b1 => ?_
 refine .q 5 hG ?_
 refine .A0 hC .z (.M1 1 a8 .z ?_)
 refine .q 3 hG ?_
 refine .k hG (b4p _) ?_
 refine .q 23 hG ?_
 refine .cond (.t a8) (fun hc3 => ?_) (fun hc3 => ?_)
 ·refine .q 5 hG ?_
  refine .e1 a8 a8 ?_
  unfold F7
  rw [if_pos (b2I hc3)]
 ·refine .q 3 hG ?_
  refine .k hG (b8R _ hl) ?_
  refine .q 2 hG ?_
  refine .cond (.t a8) (fun hc28 => ?_) (fun hc28 => ?_)
  ·refine .q 5 hG ?_
   refine .e1 a8 a8 ?_
   unfold F7
   rw [if_neg (by rw [a01 hc3];decide),if_pos hc28]
  ·refine .q 4 hG ?_
   refine .p (.o7 hG (a9r _ _) (.cons (.t a8) (.cons (.a9Q hG (fun x=>b8U x)) .nil)) ?_)
   refine .q 3 hG ?_
   refine .go 35 a8 (.t a8) (fun hg38 => .o7 hG (a1P _ _) (.cons (.q a8 hg38) (.cons (.a9Q hG (fun x=>b2H x)) .nil)) a8) ?_
   refine .q 3 hG ?_
   refine .cond (.t a8) (fun hc31 => ?_) (fun hc31 => ?_)
   ·refine .q 5 hG ?_
    refine .e1 a8 a8 ?_
    unfold F7
    rw [if_neg (by rw [a01 hc3];decide),if_neg (by rw [hc28];decide),if_pos hc31]
   ·refine .q 4 hG ?_
    refine .p (.o7 hG (a1P _ _) (.cons (.t a8) (.cons (.a9Q hG (fun x=>c0A x)) .nil)) ?_)
    refine .q 2 hG ?_
    refine .cond (.t a8) (fun hc40 => ?_) (fun hc40 => ?_)
    ·refine .q 5 hG ?_
     refine .e1 a8 a8 ?_
     unfold F7
     rw [if_neg (by rw [a01 hc3];decide),if_neg (by rw [hc28];decide),if_neg (by rw [hc31];decide),if_pos hc40]
    ·refine .q 4 hG ?_
     refine .k hG (c0B _) ?_
     refine .q 2 hG ?_
     refine .cond (.t a8) (fun hc44 => ?_) (fun hc44 => ?_)
     ·refine .q 5 hG ?_
      refine .e1 a8 a8 ?_
      unfold F7
      rw [if_neg (by rw [a01 hc3];decide),if_neg (by rw [hc28];decide),if_neg (by rw [hc31];decide),if_neg (by rw [hc40];decide),if_pos hc44]
     ·refine .q 6 hG ?_
      refine .e1 a8 a8 ?_
      unfold F7
      rw [if_neg (by rw [a01 hc3];decide),if_neg (by rw [hc28];decide),if_neg (by rw [hc31];decide),if_neg (by rw [hc40];decide),if_neg (by rw [hc44];decide)]
theorem a67 (b:List UInt8) (l:List Int) (hb:b.length≤600000) (hl:0 < l.length) (hl2:l.length≤1000) (h:∀ n∈l,0≤n∧n≤281474976710656):F5 gl prog 154 [.v b,.v l] [] (fun r Hs=>∃ u,r = .raw u∧Hs = [.own 5 u (b++numsL l)]):=by
 refine F5.Q6 func154 rfl (by kernel_rfl) 21 rfl rfl _ rfl _ rfl fun C hC hG => ?_
 refine .q 6 hG ?_
 refine .name 0 a8 fun w0=>(.C6 5 .z ?_)
 refine .q 6 hG ?_
 refine .D9 (α:=Nat×Value×List UInt8×Bool) [(7,_),(8,_)] (fun x R=>(0,.raw x.2.1)::(9,.v (x.1:Int))::R) (fun x => [(true,.usr x.2.1 (OF.mk 5 x.2.2.1 x.2.2.2))]) (fun x=>x.1≤l.length∧x.2.2.1=b++numsL (l.take x.1)∧(0 < x.1→x.2.2.2=true)) (fun x=>l.length - x.1) ((0,w0,b,false)) (.c2 a8 a8 (.nil _)) ?_ (.c2 a8 a8 (.c2 a8 a8 (.nil _))) (a8) fun x hF => ?_
 ·exact⟨Nat.zero_le _,by simp [numsL],by simp⟩
 obtain⟨k,w,c,o⟩:=x
 obtain⟨h1,h2,h3⟩:=hF
 dsimp only at h1 h2 h3 ⊢
 have hlen9:=a1F (l.take k) (fun n hn=>h n (List.mem_of_mem_take hn))
 have hc9:c.length≤607000:=(by rw [h2,List.length_append];have:(l.take k).length≤l.length:=(by simp<;>omega);omega)
 refine .q 6 hG ⟨fun hc10 => ?_,fun hc10 => ?_⟩
 ·refine .q 5 hG ?_
  refine .ix (by omega) (by omega) ?_
  refine .q 3 hG ?_
  refine .c1l hC .z (.as 0 a8 .z (.drop ?_))
  refine .q 3 hG ?_
  refine .h (.a1c hG (a1D _ _ (by simp<;>omega) (h _ (List.getElem_mem _)).1 (h _ (List.getElem_mem _)).2) (.cons (.t a8) (.cons (.t a8) .nil)) fun r16 Hs16 hr16 => ?_)
  obtain⟨u16,rfl,rfl⟩:=hr16
  show D5 _ _ _ _ _ _ _ ((true,_)::_)
  refine .q 5 hG ?_
  refine .c1j .z ?_
  refine .q 1 hG ?_
  refine .ad (by omega) (by omega) ?_
  refine .q 2 hG ?_
  refine⟨(k+1,u16,_,true),.c2 rfl rfl (.c2 rfl rfl (.nil _)),rfl,?_,by dsimp only;omega⟩
  exact⟨by dsimp only;omega,by dsimp only;rw [a5R l k (by omega),←List.append_assoc,←h2];rfl,fun _=>rfl⟩
 ·refine .q 2 hG ?_
  refine .c1k (h3 (by omega)) .z ?_
  refine .q 5 hG ?_
  refine .e1 a8 a8 ?_
  refine⟨_,.cons .z (.nil),?_⟩
  exact⟨_,rfl,by rw [h2,List.take_of_length_le (by omega)]⟩
theorem b4x (u:Value) (b:List UInt8) (l:List Pred) (hb:b.length≤600000) (hl:l.length≤8) (h:∀ p∈l,B0 p=true):F5 gl prog 157 [.raw u,.v l] [.own 5 u b] (fun r Hs=>∃ w,r = .raw w∧Hs = [.own 5 w (b++T3 x5 l)]):=by
 refine F5.Q6 func157 rfl (by kernel_rfl) 25 rfl rfl _ rfl _ rfl fun C hC hG => ?_
 refine .q 12 hG ?_
 refine .D9 (α:=Nat×Value) [(9,_),(10,_)] (fun x R=>(0,.raw x.2)::(11,.v (x.1:Int))::R) (fun x => [(false,.own 5 x.2 (b++T3 x5 (l.take x.1)))]) (fun x=>x.1≤l.length) (fun x=>l.length - x.1) ((0,u)) (.c2 a8 a8 (.nil _)) ?_ (.c2 a8 a8 (.c2 a8 a8 (.nil _))) (congrArg (fun q => [(false,E3.own _ _ q)]) (by simp [T3])) fun x hF => ?_
 ·simp
 obtain⟨k,w⟩:=x
 dsimp only at hF ⊢
 have hcl:=a2s x5 l 24 k (fun p hp=>H4 (O3 (h p hp)))
 refine .q 6 hG ⟨fun hc12 => ?_,fun hc12 => ?_⟩
 ·refine .q 5 hG ?_
  refine .ix (by omega) (by omega) ?_
  refine .q 2 hG fun b6 => ?_
  refine .q 3 hG ?_
  refine .A0 hC .z (.M1 6 a8 .z (.drop ?_))
  refine .q 2 hG ?_
  refine .k hG (a61 _) ?_
  refine .q 6 hG ?_
  have hpo:=h l[k] (List.getElem_mem _)
  have hpl:=a17 l[k]
  refine .q 3 hG ?_
  refine .h (.b5x P5 (.inl ⟨_,underlying86⟩) a8 .z (.v (.t a8)) (by simp<;>omega) (by simp<;>omega) fun w22 => ?_)
  refine .q 3 hG ?_
  refine .ad (by omega) (by omega) ?_
  refine .q 2 hG ?_
  refine⟨(k+1,_),.c2 rfl rfl (.c2 rfl rfl (.nil _)),congrArg (fun q => [(false,E3.own _ _ q)]) (by show b++T3 x5 (l.take k)++(U9 l[k]).1=b++T3 x5 (l.take (k+1));rw [a1G x5 l k (by omega),y3 hpo];simp),?_,by dsimp only;omega⟩
  omega
 ·refine .q 7 hG ?_
  refine .e1 a8 a8 ?_
  refine⟨_,.cons .z (.nil),?_⟩
  exact⟨_,rfl,by rw [List.take_of_length_le (by omega)]⟩
theorem b6K (u:Value) (b:List UInt8) (l:List Y0) (hb:b.length≤600000) (hl:l.length≤64) (h:∀ c∈l,I4 c=true):F5 gl prog 155 [.raw u,.v l] [.own 5 u b] (fun r Hs=>∃ w,r = .raw w∧Hs = [.own 5 w (b++T3 E7 l)]):=by
 refine F5.Q6 func155 rfl (by kernel_rfl) 25 rfl rfl _ rfl _ rfl fun C hC hG => ?_
 refine .q 12 hG ?_
 refine .D9 (α:=Nat×Value) [(9,_),(10,_)] (fun x R=>(0,.raw x.2)::(11,.v (x.1:Int))::R) (fun x => [(false,.own 5 x.2 (b++T3 E7 (l.take x.1)))]) (fun x=>x.1≤l.length) (fun x=>l.length - x.1) ((0,u)) (.c2 a8 a8 (.nil _)) ?_ (.c2 a8 a8 (.c2 a8 a8 (.nil _))) (congrArg (fun q => [(false,E3.own _ _ q)]) (by simp [T3])) fun x hF => ?_
 ·simp
 obtain⟨k,w⟩:=x
 dsimp only at hF ⊢
 have hcl:=a2s E7 l 2100 k (fun p hp=>a2l (h p hp))
 refine .q 6 hG ⟨fun hc12 => ?_,fun hc12 => ?_⟩
 ·refine .q 5 hG ?_
  refine .ix (by omega) (by omega) ?_
  refine .q 2 hG fun b6 => ?_
  refine .q 3 hG ?_
  refine .A0 hC .z (.M1 6 a8 .z (.drop ?_))
  refine .q 2 hG ?_
  refine .k hG (b2s _) ?_
  refine .q 6 hG ?_
  have hco:=h l[k] (List.getElem_mem _)
  have hcl2:=a36 l[k]
  refine .q 3 hG ?_
  refine .h (.b5x P5 (.inl ⟨_,underlying86⟩) a8 .z (.v (.t a8)) (by simp<;>omega) (by simp<;>omega) fun w22 => ?_)
  refine .q 3 hG ?_
  refine .ad (by omega) (by omega) ?_
  refine .q 2 hG ?_
  refine⟨(k+1,_),.c2 rfl rfl (.c2 rfl rfl (.nil _)),congrArg (fun q => [(false,E3.own _ _ q)]) (by show b++T3 E7 (l.take k)++(W9 l[k]).1=b++T3 E7 (l.take (k+1));rw [a1G E7 l k (by omega),a1I hco];simp),?_,by dsimp only;omega⟩
  omega
 ·refine .q 7 hG ?_
  refine .e1 a8 a8 ?_
  refine⟨_,.cons .z (.nil),?_⟩
  exact⟨_,rfl,by rw [List.take_of_length_le (by omega)]⟩
def a3b (b:Q4):List UInt8:=numsL [1,b.Request.Gate,b.Request.E4,b.D3,b.A8,b.j9.length]++T3 E7 b.j9++b.Proof.l
structure c2g (b:Q4):Prop where
 nums:∀ n ∈ [1,b.Request.Gate,b.Request.E4,b.D3,b.A8,(b.j9.length:Int)],0≤n∧n≤281474976710656
 l0:(numsL [1,b.Request.Gate,b.Request.E4,b.D3,b.A8,b.j9.length]).length≤42
 l1:(T3 E7 b.j9).length≤134400
 l2:(a3b b).length≤134474
theorem b8V {b:Q4} (h:a9Y b):c2g b:=by
 have h1:=h.rq
 have h2:=h.num
 have h3:=h.a34
 have hn:∀ n ∈ [1,b.Request.Gate,b.Request.E4,b.D3,b.A8,(b.j9.length:Int)],0≤n∧n≤281474976710656:=by simp;omega
 have l0:=a1F _ hn
 have l1:=a16 E7 b.j9 2100 fun c hc=>a2l (h.cav c hc)
 have l1':(T3 E7 b.j9).length≤134400:=by omega
 exact⟨hn,l0,l1',by unfold a3b;rw [List.length_append,List.length_append,I7.len];simp only [List.length_cons,List.length_nil] at l0;omega⟩
structure c3q (d:Bnd):Prop where
 a7O:d.l8.length≤8
 tick:1≤d.j8.length∧d.j8.length≤1024
 con:∀ p∈d.l8,B0 p=true
 len:(K3 d).length≤1400
 lf:(a0R d.j8).length≤1031
 ln:(J0 d.l8.length).length≤7
 lt:(J0 d.j8.length).length≤7
theorem b5G {b:Q4} (h:a9Y b) {d:Bnd} (hd:d∈b.j4):c3q d :=
 ⟨h.a7O d hd,h.tick d hd,h.con d hd,b0X (h.a7O d hd) (h.tick d hd).2 (h.con d hd),a1H (h.tick d hd).2,B3 (by have:=h.a7O d hd;omega),B3 (by have:=h.tick d hd;omega)⟩
theorem b6L (b:Q4) (h:a9Y b):u1 gl prog 88 [.v b] (fun r=>r = .v (a1o b)):=by
 have hh:=b8V h
 have hnd:=h.c18
 refine u1.jn func88 (by kernel_rfl) 63 rfl fun C hC hG => ?_
 refine .q 3 hG fun b1 => ?_
 refine .q 3 hG ?_
 refine .A0 hC .z (.M1 1 a8 .z ?_)
 refine .q 14 hG ?_
 refine .bs a8 (by decide) fun b19=>(.u0 hC .z (.as 19 a8 .z (.h (.a1c hG (a67 _ _ (by decide) (by simp) (by simp) hh.nums) (.cons .b3E (.cons (.t a8) .nil)) fun r20 Hs20 hr20 => ?_))))
 obtain⟨u20,rfl,rfl⟩:=hr20
 show D5 _ _ _ _ _ _ _ ((true,_)::_)
 refine .q 3 hG ?_
 have hq0:=hh.l0
 have hq1:=hh.l1
 refine .D7 [j0,j1,j1] (by kernel_rfl) 8 [[],[],[(22,1)],[(21,0),(23,2)],[],[(25,4)],[(24,3),(26,5)],[(27,6)]] [3,6,7] a8 (by kernel_rfl) a8 (by kernel_rfl) (by decide) ?_
 refine⟨_,fun H=>j6.move (.t a8) a8,?_⟩
 refine⟨_,fun H=>j6.A7 p9.l3 (fun x=>x.j9) V4 a8 (fun _=>a8) (.t a8) a8,?_⟩
 refine⟨_,fun H=>j6.G2 a8A (.t a8) a8,?_⟩
 refine .inl ?_
 refine⟨_,fun H=>j6.A7 p9.l4 (fun x=>x.Proof) a8l a8 (fun _=>a8) (.t a8) a8,?_⟩
 refine⟨_,fun H=>j6.P0 (by decide) M0 (.t a8) a8,?_⟩
 refine .inl (.inl ?_)
 refine⟨⟨([],j2 [_,c8,c8]),a8⟩,?_⟩
 refine A6.C8 hG (b6K _ _ _ (by simp;have:=hh.l0;simp at *;omega) h.a34 h.cav) .z (.cons (.t rfl) (.cons (.t rfl) .nil)) (by rintro _ _ ⟨_,_,rfl⟩;exact⟨_,rfl⟩) fun r24 B24 hr24 => ?_
 obtain⟨u24,rfl,hB⟩:=hr24
 cases hB
 refine⟨⟨([],j2 [_,c8,c8]),a8⟩,?_⟩
 refine A6.append P5 (.inl ⟨_,underlying86⟩) rfl .z (.v (.t rfl)) (by simp<;>omega) (by simp<;>omega) (fun w27 => ?_) rfl
 refine⟨⟨([],j2 [_,c8,c8]),a8⟩,?_⟩
 refine A6.ofP (j6.assign (.t rfl) ?_)
 refine⟨⟨([],j2 [_,c8,c8]),a8⟩,?_⟩
 show D5 _ _ _ _ _ [] ((3,_)::(27,_)::(26,_)::(25,_)::(24,_)::(23,_)::(22,_)::(21,_)::_) _
 refine .q 2 hG ?_
 refine .u0 hC .z (.as 3 a8 .z ?_)
 refine .q 5 hG ?_
 refine .bs a8 (by decide) fun b32=>(.u0 hC .z (.as 32 a8 .z (.h (.a1c hG (a67 _ _ (by simp<;>omega) (by simp) (by simp) (by simp<;>omega)) (.cons (.t a8) (.cons (.t a8) .nil)) fun r33 Hs33 hr33 => ?_))))
 obtain⟨u33,rfl,rfl⟩:=hr33
 show D5 _ _ _ _ _ _ _ ((true,_)::_)
 refine .q 4 hG ?_
 refine .del (.s .z) (.del (.s .z) (.del (.s .z) (.del (.s .z) ?_)))
 refine .q 7 hG ?_
 refine .D9 (α:=Nat×Value) [(35,_),(36,_)] (fun x R=>(3,.raw x.2)::(37,.v (x.1:Int))::R) (fun x => [(true,.own 5 x.2 (a3b b++J0 b.j4.length++T3 K3 (b.j4.take x.1)))]) (fun x=>x.1≤b.j4.length) (fun x=>b.j4.length - x.1) ((0,u33)) (.c2 a8 a8 (.nil _)) ?_ (.c2 a8 a8 (.c2 a8 a8 (.nil _))) (congrArg (fun q => [(true,E3.own _ _ q)]) (by simp [a3b,numsL,T3])) fun x hF => ?_
 ·simp
 obtain⟨k,w⟩:=x
 dsimp only at hF ⊢
 have hcl:=a2s K3 b.j4 1400 k (fun d hd=>(b5G h hd).len)
 refine .q 6 hG ⟨fun hc38 => ?_,fun hc38 => ?_⟩
 ·refine .q 5 hG ?_
  refine .ix (by omega) (by omega) ?_
  refine .q 2 hG fun b5 => ?_
  refine .q 3 hG ?_
  have hdd:=b5G h (List.getElem_mem (show k < b.j4.length by omega))
  have hh2:=hh.l2
  have q1:=hdd.a7O
  have q2:=hdd.tick
  have q3:=hdd.lt
  have q4:=hdd.ln
  have q6:(numsL [(b.j4[k].l8.length:Int)]).length≤7:=a1F [_] (by simp<;>omega)
  have q5:=a16 x5 b.j4[k].l8 24 (fun p hp=>H4 (O3 (hdd.con p hp)))
  have hnl:=B3 (n:=b.j4.length) (by omega)
  refine .A0 hC .z (.M1 5 a8 .z (.u0 hC .z1 (.as 3 a8 .z1 (.del .z (.del .z ?_)))))
  refine .q 4 hG ?_
  refine .h (.a1c hG (a9P _ _ (by simp<;>omega) hdd.tick.2) (.cons (.t a8) (.cons (.t a8) .nil)) fun r45 Hs45 hr45 => ?_)
  obtain⟨u45,rfl,rfl⟩:=hr45
  show D5 _ _ _ _ _ _ _ ((true,_)::_)
  refine .q 6 hG ?_
  refine .u0 hC .z (.as 3 a8 .z (.del .z (.a7n (by kernel_rfl) 10 [[],[],[(49,1)],[(50,2)],[(51,3)],[(48,0),(52,4)],[],[(54,6)],[(53,5),(55,7)],[(56,8)]] [4,5,8,9] a8 (by kernel_rfl) a8 (by kernel_rfl) (by decide) ?_)))
  refine⟨_,fun H=>j6.move (.t a8) a8,?_⟩
  refine⟨_,fun H=>j6.A7 p8.l1 (fun x=>x.l8) a5E a8 (fun _=>a8) (.t a8) a8,?_⟩
  refine⟨_,fun H=>j6.G2 a8B (.t a8) a8,?_⟩
  refine⟨_,fun H=>j6.len underlying83 (.t a8) a8,?_⟩
  refine .inl (.inl ?_)
  refine⟨_,fun H=>j6.A7 p8.l1 (fun x=>x.l8) a5E a8 (fun _=>a8) (.t a8) a8,?_⟩
  refine⟨_,fun H=>j6.G2 a8B (.t a8) a8,?_⟩
  refine .inl (.inl ?_)
  refine A6.buildSlice (α:=Int) R6 underlying33 (.cons (.t rfl) .nil) rfl (by decide) fun b52 => ?_
  refine A6.u0 hC .z (A6.as 52 rfl .z (A6.a1c hG (a67 _ _ (by simp<;>omega) (by simp) (by simp) (by simp<;>omega)) (.cons (.t rfl) (.cons (.t rfl) .nil)) fun r53 Hs53 hr53 => ?_))
  obtain⟨u53,rfl,rfl⟩:=hr53
  refine A6.C8 hG (b4x _ _ _ (by simp<;>omega) hdd.a7O hdd.con) .z (.cons (.t rfl) (.cons (.t rfl) .nil)) (by rintro _ _ ⟨_,_,rfl⟩;exact⟨_,rfl⟩) fun r56 B56 hr56 => ?_
  obtain⟨u56,rfl,hB⟩:=hr56
  cases hB
  refine A6.ofP (j6.assign (.t rfl) ?_)
  show D5 _ _ _ _ _ [] ((3,_)::(56,_)::(55,_)::(54,_)::(53,_)::(52,_)::(51,_)::(50,_)::(49,_)::(48,_)::_) _
  refine .q 1 hG ?_
  refine .del (.s .z) ?_
  refine .q 3 hG ?_
  refine .p (.P0 (by decide) M0 (.t a8) ?_)
  refine .ap (by simp<;>omega) (by simp<;>omega) fun w60 => ?_
  refine .q 3 hG ?_
  refine .ad (by omega) (by omega) ?_
  refine .q 2 hG ?_
  refine⟨(k+1,_),.c2 rfl rfl (.c2 rfl rfl (.nil _)),congrArg (fun q => [(true,E3.own _ _ q)]) (by show _=a3b b++J0 b.j4.length++T3 K3 (b.j4.take (k+1));rw [a1G K3 b.j4 k (by omega)];simp [K3,a0R,numsL]),?_,by dsimp only;omega⟩
  omega
 ·refine .q 2 hG ?_
  refine .u0 hC .z (.as 3 a8 .z ?_)
  refine .q 5 hG ?_
  refine .e1 a8 a8 ?_
  refine congrArg AV.v ?_
  rw [List.take_of_length_le (by omega)];unfold a1o a3b;simp
theorem a0o {b:Q4} (h:F7 b≠0):L7 b=F7 b:=by unfold L7;rw [if_pos h]
theorem a7D {b:Q4} (h:F7 b=0) (h2:4096 < (a1o b).length):L7 b=2:=by unfold L7;rw [if_neg (by simpa using h),if_pos h2]
theorem a7E {b:Q4} (h:F7 b=0) (h2:¬4096 < (a1o b).length):L7 b=0:=by unfold L7;rw [if_neg (by simpa using h),if_neg h2]
theorem c0D (b:Q4) (hl:b.j9.length≤1000000):u1 gl prog 35 [.v b] (fun r=>r = .v (L7 b)):=by
 refine u1.jn func35 (by kernel_rfl) 13 rfl fun C hC hG => ?_
 refine .q 3 hG fun b1 => ?_
 refine .q 4 hG ?_
 refine .A0 hC .z (.M1 1 a8 .z ?_)
 refine .q 2 hG ?_
 refine .k hG (c0C _ hl) ?_
 refine .q 8 hG ⟨fun hc7 => ?_,fun hc7 => ?_⟩
 ·refine .q 6 hG ?_
  refine .e1 a8 a8 ?_
  rw [a0o hc7]
 ·refine .q 3 hG ?_
  have h0:F7 b=0:=Decidable.not_not.1 hc7
  refine .q 2 hG ?_
  refine .k hG (b6L _ (a4L h0)) ?_
  refine .q 4 hG ⟨fun hc12 => ?_,fun hc12 => ?_⟩
  ·refine .q 5 hG ?_
   refine .e1 a8 a8 ?_
   rw [a7D h0 (by omega)]
  ·refine .q 6 hG ?_
   refine .e1 a8 a8 ?_
   rw [a7E h0 (by omega)]
theorem b8W (l:List Int) : [1]++numsL l=numsL (1::l):=by
 show [1]++numsL l=(J0 1::l.map fun n=>J0 n.toNat).flatten
 rw [List.flatten_cons,a2k (by decide)];rfl
theorem b8X (b:Q4) (h:a9Y b):u1 gl prog 108 [.v b] (fun r=>r = .v (a1o b)):=by
 have hh:=b8V h
 have hnd:=h.c18
 have hnc:=h.a34
 have hq0:=hh.l0
 have hq1:=hh.l1
 have hh2:=hh.l2
 have hnl:=B3 (n:=b.j4.length) (by omega)
 have hb5:∀ n ∈ [b.Request.Gate,b.Request.E4,b.D3,b.A8,(b.j9.length:Int)],0≤n∧n≤281474976710656:=fun n hn=>hh.nums n (List.mem_cons_of_mem _ hn)
 have hl5 : [b.Request.Gate,b.Request.E4,b.D3,b.A8,(b.j9.length:Int)].length=5:=rfl
 refine u1.jn func108 (by kernel_rfl) 116 rfl fun C hC hG => ?_
 refine .q 3 hG fun b1 => ?_
 refine .q 3 hG ?_
 refine .A0 hC .z (.M1 1 a8 .z ?_)
 refine .q 1 hG ?_
 refine .bs a8 (by decide) fun b14 => ?_
 refine .q 17 hG ?_
 refine .bs a8 (by decide) fun b28 => ?_
 refine .q 4 hG ?_
 refine .u0 hC .z (.as 4 a8 .z (.del .z (.del (.s .z) ?_)))
 refine .q 4 hG ?_
 refine .D9 (α:=Nat×Value) [(1,_),(4,_)] (fun x R=>(3,.raw x.2)::(5,.v (x.1:Int))::R) (fun x => [(true,.own 5 x.2 ([1]++numsL ([b.Request.Gate,b.Request.E4,b.D3,b.A8,(b.j9.length:Int)].take x.1)))]) (fun x=>x.1≤5) (fun x=>5 - x.1) ((0,slc b14 0 1 1)) (.c2 a8 a8 (.nil _)) ?_ (.c2 a8 a8 (.c2 a8 a8 (.nil _))) (congrArg (fun q => [(true,E3.own _ _ q)]) (by simp [numsL])) fun x hF => ?_
 ·simp
 obtain⟨k,w⟩:=x
 dsimp only at hF ⊢
 have hcl:=a1F ([b.Request.Gate,b.Request.E4,b.D3,b.A8,(b.j9.length:Int)].take k) (fun n hn=>hb5 n (List.mem_of_mem_take hn))
 have hcl2:([b.Request.Gate,b.Request.E4,b.D3,b.A8,(b.j9.length:Int)].take k).length≤5:=(by simp<;>omega)
 refine .q 9 hG ⟨fun hc32 => ?_,fun hc32 => ?_⟩
 ·refine .q 3 hG ?_
  have hn7:=B3 (n:=([b.Request.Gate,b.Request.E4,b.D3,b.A8,(b.j9.length:Int)][k]).toNat) (by have:=hb5 _ (List.getElem_mem (show k < [b.Request.Gate,b.Request.E4,b.D3,b.A8,(b.j9.length:Int)].length by simp;omega));omega)
  refine .q 4 hG ?_
  refine .ix (by omega) (by omega) ?_
  refine .q 1 hG ?_
  refine .k hG (F4 _ (hb5 _ (List.getElem_mem _)).1 (hb5 _ (List.getElem_mem _)).2) ?_
  refine .ap (by simp<;>omega) (by simp<;>omega) fun w41 => ?_
  refine .q 4 hG ?_
  refine .ad (by omega) (by omega) ?_
  refine .q 2 hG ?_
  refine⟨(k+1,_),.c2 rfl rfl (.c2 rfl rfl (.nil _)),congrArg (fun q => [(true,E3.own _ _ q)]) (by show _ = [1]++numsL ([b.Request.Gate,b.Request.E4,b.D3,b.A8,(b.j9.length:Int)].take (k+1));rw [a5R [b.Request.Gate,b.Request.E4,b.D3,b.A8,(b.j9.length:Int)] k (by simp<;>omega),←List.append_assoc];rfl),?_,by dsimp only;omega⟩
  dsimp only;omega
 ·refine .q 3 hG ?_
  obtain rfl:k=5:=by simp only [List.length_cons,List.length_nil] at hc32;omega
  refine .q 4 hG ?_
  refine .D9 (α:=Nat×Value) [(1,_)] (fun x R=>(3,.raw x.2)::(6,.v (x.1:Int))::R) (fun x => [(true,.own 5 x.2 (numsL (1 :: [b.Request.Gate,b.Request.E4,b.D3,b.A8,(b.j9.length:Int)])++T3 E7 (b.j9.take x.1)))]) (fun x=>x.1≤b.j9.length) (fun x=>b.j9.length - x.1) ((0,w)) (.cons rfl (.nil _)) ?_ (.c2 rfl rfl (.cons rfl (.nil _))) (congrArg (fun q => [(true,E3.own _ _ q)]) (by show [1]++numsL ([b.Request.Gate,b.Request.E4,b.D3,b.A8,(b.j9.length:Int)].take 5)=numsL (1 :: [b.Request.Gate,b.Request.E4,b.D3,b.A8,(b.j9.length:Int)])++T3 E7 (b.j9.take 0);rw [b8W];simp [T3])) fun x hF => ?_
  ·simp
  obtain⟨k1,w1⟩:=x
  dsimp only at hF ⊢
  have hcl:=a2s E7 b.j9 2100 k1 (fun c hc=>a2l (h.cav c hc))
  refine .q 10 hG ⟨fun hc46 => ?_,fun hc46 => ?_⟩
  ·refine .q 4 hG ?_
   have hpl2:=a36 b.j9[k1]
   have hco:=h.cav _ (List.getElem_mem (show k1 < b.j9.length by omega))
   refine .q 4 hG ?_
   refine .ix (by omega) (by omega) ?_
   refine .q 1 hG ?_
   refine .k hG (a90 _) ?_
   refine .q 9 hG ?_
   refine .ap (by simp<;>omega) (by simp<;>omega) fun w60 => ?_
   refine .q 4 hG ?_
   refine .ad (by omega) (by omega) ?_
   refine .q 2 hG ?_
   refine⟨(k1+1,_),.c2 rfl rfl (.cons rfl (.nil _)),congrArg (fun q => [(true,E3.own _ _ q)]) (by show _++(W9 b.j9[k1]).1=numsL (1 :: [b.Request.Gate,b.Request.E4,b.D3,b.A8,(b.j9.length:Int)])++T3 E7 (b.j9.take (k1+1));rw [a1G E7 b.j9 k1 (by omega),a1I hco];simp),?_,by dsimp only;omega⟩
   omega
  ·refine .q 2 hG ?_
   obtain rfl:k1=b.j9.length:=by omega
   refine .D7 [j0] (by kernel_rfl) 10 [[],[],[(62,1)],[(61,0),(63,2)],[],[(65,4)],[(66,5)],[(67,6)],[(64,3),(68,7)],[(69,8)]] [0,3,8,9] a8 (by kernel_rfl) a8 (by kernel_rfl) (by decide) (.inl ?_)
   refine⟨_,fun H=>j6.A7 p9.l4 (fun x=>x.Proof) a8l a8 (fun _=>a8) (.t a8) a8,?_⟩
   refine⟨_,fun H=>j6.P0 (by decide) M0 (.t a8) a8,?_⟩
   refine .inl ?_
   refine⟨_,fun H=>j6.A7 p9.l5 (fun x=>x.j4) Z6 a8 (fun _=>a8) (.t a8) a8,?_⟩
   refine⟨_,fun H=>j6.G2 c0f (.t a8) a8,?_⟩
   refine⟨_,fun H=>j6.len underlying27 (.t a8) a8,?_⟩
   refine⟨_,fun H=>j6.o7 hG (F4 _ (by omega) (by omega)) (.cons (.t a8) .nil) a8,?_⟩
   refine .inl (.inl ?_)
   refine⟨⟨([],j2 [_]),a8⟩,?_⟩
   refine A6.ofP (j6.move (.t rfl) ?_)
   refine⟨⟨([],j2 [_]),a8⟩,?_⟩
   refine A6.append P5 (.inl ⟨_,underlying86⟩) rfl .z (.v (.t rfl)) (by simp<;>omega) (by simp<;>omega) (fun w64 => ?_) rfl
   refine⟨⟨([],j2 [_]),a8⟩,?_⟩
   refine A6.append P5 (.inl ⟨_,underlying86⟩) rfl .z (.v (.t rfl)) (by simp<;>omega) (by simp<;>omega) (fun w69 => ?_) rfl
   refine⟨⟨([],j2 [_]),a8⟩,?_⟩
   refine A6.ofP (j6.assign (.t rfl) ?_)
   refine⟨⟨([],j2 [_]),a8⟩,?_⟩
   show D5 _ _ _ _ _ [] ((3,_)::(69,_)::(68,_)::(67,_)::(66,_)::(65,_)::(64,_)::(63,_)::(62,_)::(61,_)::_) _
   refine .q 7 hG ?_
   refine .D9 (α:=Nat×Value) [(1,_)] (fun x R=>(3,.raw x.2)::(9,.v (x.1:Int))::R) (fun x => [(true,.own 5 x.2 (a3b b++J0 b.j4.length++T3 K3 (b.j4.take x.1)))]) (fun x=>x.1≤b.j4.length) (fun x=>b.j4.length - x.1) ((0,_)) (.cons rfl (.nil _)) ?_ (.c2 rfl rfl (.cons rfl (.nil _))) (congrArg (fun q => [(true,E3.own _ _ q)]) (by show _=a3b b++J0 b.j4.length++T3 K3 (b.j4.take 0);unfold a3b;simp [T3])) fun x hF => ?_
   ·simp
   obtain⟨k2,w2⟩:=x
   dsimp only at hF ⊢
   have hcl:=a2s K3 b.j4 1400 k2 (fun d hd=>(b5G h hd).len)
   refine .q 10 hG ⟨fun hc74 => ?_,fun hc74 => ?_⟩
   ·refine .q 8 hG ?_
    refine .ix (by omega) (by omega) ?_
    refine .q 2 hG fun b10 => ?_
    refine .q 3 hG ?_
    have hdd:=b5G h (List.getElem_mem (show k2 < b.j4.length by omega))
    have q1:=hdd.a7O
    have q2:=hdd.tick
    have q3:=hdd.lt
    have q4:=hdd.ln
    refine .A0 hC .z (.M1 10 a8 .z (.del .z (.D7 [j0] (by kernel_rfl) 11 [[],[],[(83,1)],[(84,2)],[(82,0),(85,3)],[],[(87,5)],[(88,6)],[(89,7)],[(86,4),(90,8)],[(91,9)]] [0,4,9,10] a8 (by kernel_rfl) a8 (by kernel_rfl) (by decide) (.inl ?_))))
    refine⟨_,fun H=>j6.A7 p8.l0 (fun x=>x.j8) a6N a8 (fun _=>a8) (.t a8) a8,?_⟩
    refine⟨_,fun H=>j6.G2 a2H (.t a8) a8,?_⟩
    refine⟨_,fun H=>j6.o7 hG (a1i _ (by simp<;>omega)) (.cons (.t a8) .nil) a8,?_⟩
    refine .inl ?_
    refine⟨_,fun H=>j6.A7 p8.l1 (fun x=>x.l8) a5E a8 (fun _=>a8) (.t a8) a8,?_⟩
    refine⟨_,fun H=>j6.G2 a8B (.t a8) a8,?_⟩
    refine⟨_,fun H=>j6.len underlying83 (.t a8) a8,?_⟩
    refine⟨_,fun H=>j6.o7 hG (F4 _ (by omega) (by simp<;>omega)) (.cons (.t a8) .nil) a8,?_⟩
    refine .inl (.inl ?_)
    refine⟨⟨([],j2 [_]),a8⟩,?_⟩
    refine A6.ofP (j6.move (.t rfl) ?_)
    refine⟨⟨([],j2 [_]),a8⟩,?_⟩
    refine A6.append P5 (.inl ⟨_,underlying86⟩) rfl .z (.v (.t rfl)) (by simp<;>omega) (by simp<;>omega) (fun w86 => ?_) rfl
    refine⟨⟨([],j2 [_]),a8⟩,?_⟩
    refine A6.append P5 (.inl ⟨_,underlying86⟩) rfl .z (.v (.t rfl)) (by simp<;>omega) (by simp<;>omega) (fun w91 => ?_) rfl
    refine⟨⟨([],j2 [_]),a8⟩,?_⟩
    refine A6.ofP (j6.assign (.t rfl) ?_)
    refine⟨⟨([],j2 [_]),a8⟩,?_⟩
    show D5 _ _ _ _ _ [] ((3,_)::(91,_)::(90,_)::(89,_)::(88,_)::(87,_)::(86,_)::(85,_)::(84,_)::(83,_)::(82,_)::_) _
    refine .q 7 hG ?_
    refine .D9 (α:=Nat×Value) [(1,_),(9,_),(10,_)] (fun x R=>(3,.raw x.2)::(11,.v (x.1:Int))::R) (fun x => [(true,.own 5 x.2 (a3b b++J0 b.j4.length++T3 K3 (b.j4.take k2)++(J0 b.j4[k2].j8.length++b.j4[k2].j8)++J0 b.j4[k2].l8.length++T3 x5 (b.j4[k2].l8.take x.1)))]) (fun x=>x.1≤b.j4[k2].l8.length) (fun x=>b.j4[k2].l8.length - x.1) ((0,_)) (.c2 rfl rfl (.cons rfl (.nil _))) ?_ (.c2 rfl rfl (.c2 rfl rfl (.cons rfl (.nil _)))) (congrArg (fun q => [(true,E3.own _ _ q)]) (by show _=a3b b++J0 b.j4.length++T3 K3 (b.j4.take k2)++(J0 b.j4[k2].j8.length++b.j4[k2].j8)++J0 b.j4[k2].l8.length++T3 x5 (b.j4[k2].l8.take 0);simp [T3])) fun x hF => ?_
    ·simp
    obtain⟨k3,w3⟩:=x
    dsimp only at hF ⊢
    have hcl3:=a2s x5 b.j4[k2].l8 24 k3 (fun p hp=>H4 (O3 (hdd.con p hp)))
    refine .q 10 hG ⟨fun hc96 => ?_,fun hc96 => ?_⟩
    ·refine .q 4 hG ?_
     have hx3:(k3:Int) < (b.j4[k2].l8.length:Int):=hc96
     have hpo:=hdd.con _ (List.getElem_mem (show k3 < b.j4[k2].l8.length by omega))
     have hpl3:=a17 b.j4[k2].l8[k3]
     refine .q 4 hG ?_
     refine .ix (by omega) (by omega) ?_
     refine .q 1 hG ?_
     refine .k hG (a5S _) ?_
     refine .q 9 hG ?_
     refine .ap (by simp<;>omega) (by simp<;>omega) fun w110 => ?_
     refine .q 4 hG ?_
     refine .ad (by omega) (by omega) ?_
     refine .q 2 hG ?_
     refine⟨(k3+1,_),.c2 rfl rfl (.c2 rfl rfl (.cons rfl (.nil _))),congrArg (fun q => [(true,E3.own _ _ q)]) (by show _++(U9 b.j4[k2].l8[k3]).1=a3b b++J0 b.j4.length++T3 K3 (b.j4.take k2)++(J0 b.j4[k2].j8.length++b.j4[k2].j8)++J0 b.j4[k2].l8.length++T3 x5 (b.j4[k2].l8.take (k3+1));rw [a1G x5 b.j4[k2].l8 k3 (by omega),y3 hpo];simp),?_,by dsimp only;omega⟩
     omega
    ·refine .q 1 hG ?_
     have hx3:¬((k3:Int) < (b.j4[k2].l8.length:Int)):=hc96
     rw [List.take_of_length_le (show b.j4[k2].l8.length≤k3 by omega)]
     have q5:=a16 x5 b.j4[k2].l8 24 (fun p hp=>H4 (O3 (hdd.con p hp)))
     refine .q 3 hG ?_
     refine .p (.P0 (by decide) M0 (.t a8) ?_)
     refine .ap (by simp<;>omega) (by simp<;>omega) fun w114 => ?_
     refine .q 4 hG ?_
     refine .ad (by omega) (by omega) ?_
     refine .q 2 hG ?_
     refine⟨(k2+1,_),.c2 rfl rfl (.cons rfl (.nil _)),congrArg (fun q => [(true,E3.own _ _ q)]) (by show _=a3b b++J0 b.j4.length++T3 K3 (b.j4.take (k2+1));rw [a1G K3 b.j4 k2 (by omega)];simp [K3,a0R]),?_,by dsimp only;omega⟩
     omega
   ·refine .q 2 hG ?_
    refine .u0 hC .z (.as 3 a8 .z ?_)
    refine .q 5 hG ?_
    refine .e1 a8 a8 ?_
    refine congrArg AV.v ?_
    rw [List.take_of_length_le (by omega)];unfold a1o a3b;simp
theorem any_succ {α:Type} (p:α→Bool) (l:List α) (k:Nat) (h:k < l.length):(l.take (k+1)).any p=((l.take k).any p||p l[k]):=by
 rw [List.take_succ_eq_append_getElem h,List.any_append];simp
def a0x (b:Q4) (i:Nat):Bool:=(!b.j9.all I4)||(b.j4.take i).any a3p
def X5 (b:Q4) (i:Nat):Bool:=(b.j4.take i).any a3G
def a38 (p:Pred):Bool := !B0 p
def a3J (p:Pred):Bool:=decide (p.Kind=7)
theorem b2J (b:Q4) (i:Nat) (h:i < b.j4.length):a0x b (i+1)=(a0x b i||decide ((b.j4[i].j8.length:Int) < 1)||decide ((1024:Int) < (b.j4[i].j8.length:Int))||b.j4[i].l8.any a38):=by
 unfold a0x;rw [any_succ _ _ _ h,c1r,b2G];unfold a3p a38;simp only [Bool.or_assoc]
theorem b1g (b:Q4) (i:Nat) (h:i < b.j4.length):X5 b (i+1)=(X5 b i||b.j4[i].l8.any a3J):=by
 unfold X5;rw [any_succ _ _ _ h];rfl
theorem c0E {b:Q4} (h1:(decide ((64:Int) < (b.j9.length:Int))||decide (8 < a1l b.j9)||decide ((8:Int) < (b.j4.length:Int)))=false) (h2:b.j4.any a1N=false):S6 b=false:=by
 rw [b8Q,c0z] at h1;unfold S6;rw [h1,h2];rfl
theorem c2h {b:Q4} (h1:(decide ((64:Int) < (b.j9.length:Int))||decide (8 < a1l b.j9)||decide ((8:Int) < (b.j4.length:Int)))=true):S6 b=true:=by
 rw [b8Q,c0z] at h1;unfold S6;rw [h1];rfl
theorem c2i {b:Q4} {i:Nat} (h:i < b.j4.length) (h2:(8:Int) < (b.j4[i].l8.length:Int)):S6 b=true:=by
 have:b.j4.any a1N=true:=List.any_eq_true.2 ⟨_,List.getElem_mem h,by unfold a1N;rw [decide_eq_true_eq];omega⟩
 unfold S6;rw [this,Bool.or_true]
theorem a6z (b:Q4):a0x b b.j4.length=((b.j9.any fun c => !I4 c)||b.j4.any a3p):=by
 unfold a0x;rw [List.take_length];congr 1
 induction b.j9 with
 | nil=>rfl
 | cons c l ih=>rw [List.all_cons,List.any_cons,Bool.not_and,ih]
theorem c0F {b:Q4} (h:P4 b=false):L7 b=1:=by
 have:F7 b=1:=by unfold F7;rw [if_pos h]
 rw [a0o (by rw [this];decide),this]
theorem b5H {b:Q4} (h:P4 b=true) (h2:S6 b=true):L7 b=2:=by
 have:F7 b=2:=by unfold F7;rw [if_neg (by rw [h];decide),if_pos h2]
 rw [a0o (by rw [this];decide),this]
theorem c0G {b:Q4} (h:P4 b=true) (h2:S6 b=false) (h3:a0x b b.j4.length=true):L7 b=5:=by
 rw [a6z] at h3
 have:F7 b=5:=by unfold F7;rw [if_neg (by rw [h];decide),if_neg (by rw [h2];decide),if_pos h3]
 rw [a0o (by rw [this];decide),this]
theorem c0H {b:Q4} (h:P4 b=true) (h2:S6 b=false) (h3:a0x b b.j4.length=false) (h4:X5 b b.j4.length=true):L7 b=6:=by
 rw [a6z] at h3;unfold X5 at h4;rw [List.take_length] at h4
 have:F7 b=6:=by unfold F7;rw [if_neg (by rw [h];decide),if_neg (by rw [h2];decide),if_neg (by rw [h3];decide),if_pos h4]
 rw [a0o (by rw [this];decide),this]
theorem b8Y {b:Q4} (h:P4 b=true) (h2:S6 b=false) (h3:a0x b b.j4.length=false) (h4:X5 b b.j4.length=false) (h5:V1 b.j4 b.j4.length=true):L7 b=10:=by
 rw [a6z] at h3;unfold X5 at h4;rw [List.take_length] at h4
 have:F7 b=10:=by unfold F7;rw [if_neg (by rw [h];decide),if_neg (by rw [h2];decide),if_neg (by rw [h3];decide),if_neg (by rw [h4];decide),if_pos (show a3q b.j4=true from h5)]
 rw [a0o (by rw [this];decide),this]
theorem c0I {b:Q4} (h:P4 b=true) (h2:S6 b=false) (h3:a0x b b.j4.length=false) (h4:X5 b b.j4.length=false) (h5:V1 b.j4 b.j4.length=false):F7 b=0:=by
 rw [a6z] at h3;unfold X5 at h4;rw [List.take_length] at h4
 unfold F7;rw [if_neg (by rw [h];decide),if_neg (by rw [h2];decide),if_neg (by rw [h3];decide),if_neg (by rw [h4];decide),if_neg (by unfold a3q;rw [h5];decide)]
theorem b2K (b:Q4) (hl:b.j9.length≤1000000):u1 gl prog 44 [.v b] (fun r=>r = .v (L7 b)):=by
 refine u1.jn func44 (by kernel_rfl) 138 rfl fun C hC hG => ?_
 refine .q 3 hG fun b1 => ?_
 refine .q 4 hG ?_
 refine .A0 hC .z (.M1 1 a8 .z (.del .z ?_))
 refine .q 3 hG ?_
 refine .k hG (a7Y _) ?_
 refine .q 22 hG ?_
 refine .cond (.t a8) (fun hc33 => ?_) (fun hc33 => ?_)
 ·refine .q 5 hG ?_
  refine .e1 a8 a8 ?_
  rw [c0F (b2I hc33)]
 ·refine .q 11 hG ?_
  refine .kg hG (a9Z _ hl) ?_
  refine .q 9 hG ?_
  refine .cond (.t a8) (fun hc49 => ?_) (fun hc49 => ?_)
  ·refine .q 5 hG ?_
   refine .e1 a8 a8 ?_
   rw [b5H (a01 hc33) (c2h hc49)]
  ·refine .q 2 hG ?_
   have hD:b.j4.length≤8:=by simp only [Bool.or_eq_false_iff,decide_eq_false_iff_not] at hc49;omega
   refine .q 3 hG ?_
   refine .k hG (a7w _) ?_
   refine .q 11 hG ?_
   refine .D9 (α:=Nat) [(1,_)] (fun i R=>(3,.v (a0x b i))::(4,.v (X5 b i))::(5,.v (V1 b.j4 i))::(6,.v (i:Int))::R) (Function.const _ _) (fun i=>i≤b.j4.length∧(b.j4.take i).any a1N=false) (fun i=>b.j4.length - i) (0) (.cons a8 (.nil _)) ?_ (.cons (congrArg (fun q=>some (AV.v q)) (by unfold a0x;simp)) (.c2 a8 a8 (.c2 a8 a8 (.nil _)))) (a8) fun i hF => ?_
   ·exact⟨Nat.zero_le _,a8⟩
   obtain⟨h1,h2⟩:=hF
   refine .q 10 hG ⟨fun hc58 => ?_,fun hc58 => ?_⟩
   ·refine .q 8 hG ?_
    refine .ix (by omega) (by omega) ?_
    refine .q 2 hG fun b7 => ?_
    refine .q 4 hG ?_
    refine .A0 hC .z (.M1 7 a8 .z (.del .z ?_))
    have hi:i < b.j4.length:=by omega
    refine .q 7 hG ⟨fun hc69 => ?_,fun hc69 => ?_⟩
    ·refine .q 5 hG ?_
     refine .e1 a8 a8 ?_
     rw [b5H (a01 hc33) (c2i hi hc69)]
    ·refine .q 20 hG ?_
     have hcl:b.j4[i].l8.length≤8:=by(have hx:¬((8:Int) < (b.j4[i].l8.length:Int)):=hc69;omega)
     refine .q 4 hG ?_
     refine .D9 (α:=Nat) [(1,_),(5,_),(6,_),(7,_)] (fun y R=>(3,.v (a0x b i||decide ((b.j4[i].j8.length:Int) < 1)||decide ((1024:Int) < (b.j4[i].j8.length:Int))||(b.j4[i].l8.take y).any a38))::(4,.v (X5 b i||(b.j4[i].l8.take y).any a3J))::(8,.v (y:Int))::R) (Function.const _ _) (fun y=>y≤b.j4[i].l8.length) (fun y=>b.j4[i].l8.length - y) (0) (.c2 a8 a8 (.c2 a8 a8 (.nil _))) ?_ (.cons (congrArg (fun q=>some (AV.v q)) (Bool.or_false _).symm) (.cons (congrArg (fun q=>some (AV.v q)) (Bool.or_false _).symm) (.c2 a8 a8 (.c2 a8 a8 (.cons a8 (.nil _)))))) (a8) fun y hF => ?_
     ·simp
     refine .q 10 hG ⟨fun hc87 => ?_,fun hc87 => ?_⟩
     ·refine .q 4 hG ?_
      have hy2:y < b.j4[i].l8.length:=by(have hx:(y:Int) < (b.j4[i].l8.length:Int):=hc87;omega)
      refine .q 6 hG ?_
      refine .go 91 a8 (.t a8) (fun hg95 => .idx T1 underlying83 (.q a8 hg95) (.q a8 hg95) (by first|omega|(simp;omega)|(have:=hg95;simp at this;omega)) (by first|omega|(simp;omega)|(have:=hg95;simp at this;omega)) a8) ?_
      refine .q 1 hG ?_
      refine .kg hG (a1k _) ?_
      refine .q 10 hG ?_
      refine .go 101 a8 (.t a8) (fun hg105 => .idx T1 underlying83 (.q a8 hg105) (.q a8 hg105) (by first|omega|(simp;omega)|(have:=hg105;simp at this;omega)) (by first|omega|(simp;omega)|(have:=hg105;simp at this;omega)) a8) ?_
      refine .q 6 hG ?_
      have hf1:(a0x b i||decide ((b.j4[i].j8.length:Int) < 1)||decide ((1024:Int) < (b.j4[i].j8.length:Int))||(b.j4[i].l8.take y).any a38 || !B0 b.j4[i].l8[y])=(a0x b i||decide ((b.j4[i].j8.length:Int) < 1)||decide ((1024:Int) < (b.j4[i].j8.length:Int))||(b.j4[i].l8.take (y+1)).any a38):=(by rw [any_succ a38 b.j4[i].l8 y hy2,←Bool.or_assoc];rfl)
      have hf2:(X5 b i||(b.j4[i].l8.take y).any a3J||decide (b.j4[i].l8[y].Kind=7))=(X5 b i||(b.j4[i].l8.take (y+1)).any a3J):=(by rw [any_succ a3J b.j4[i].l8 y hy2,←Bool.or_assoc];rfl)
      refine .q 2 hG ?_
      refine .ad (by omega) (by omega) ?_
      refine .q 2 hG ?_
      refine⟨y+1,.cons (congrArg (fun q=>some (AV.v q)) hf1) (.cons (congrArg (fun q=>some (AV.v q)) hf2) (.c2 rfl rfl (.c2 rfl rfl (.cons rfl (.nil _))))),rfl,?_,by omega⟩
      omega
     ·refine .q 2 hG ?_
      have hy:b.j4[i].l8.length≤y:=by(have hx:¬((y:Int) < (b.j4[i].l8.length:Int)):=hc87;omega)
      refine .q 4 hG ?_
      refine .D9 (α:=Nat) [(1,_),(3,_),(4,_),(6,_),(7,_)] (fun z R=>(5,.v (V1 b.j4 i||(b.j4.take z).any fun d=>decide (d.j8=b.j4[i].j8)))::(9,.v (z:Int))::R) (Function.const _ _) (fun z=>z≤i) (fun z=>i - z) (0) (.c2 a8 a8 (.c2 a8 a8 (.cons a8 (.nil _)))) ?_ (.cons (congrArg (fun q=>some (AV.v q)) (Bool.or_false _).symm) (.c2 a8 a8 (.c2 a8 a8 (.c2 a8 a8 (.nil _))))) (a8) fun z hF => ?_
      ·simp
      refine .q 8 hG ⟨fun hc112 => ?_,fun hc112 => ?_⟩
      ·refine .q 3 hG ?_
       have hz2:z < b.j4.length:=by omega
       refine .draw (by kernel_rfl) 13 [[],[(115,0)],[],[(117,2)],[],[(119,4)],[],[(120,5),(121,6)],[(122,7)],[(123,8)],[(118,3),(124,9)],[(116,1),(125,10)],[(126,11)]] a8 (by kernel_rfl) a8 ?_
       refine⟨_,j6.move (.t a8) a8,?_⟩
       refine⟨_,j6.move (.t a8) a8,?_⟩
       refine⟨_,⟨_,_,a8,a8,fun hg117=>j6.A7 p8.l0 (fun x=>x.j8) a6N a8 (fun _=>a8) (.t a8) a8⟩,?_⟩
       refine⟨_,⟨_,_,a8,a8,fun hg118=>j6.G2 a2H (.q a8 hg118) a8⟩,?_⟩
       refine⟨_,⟨_,_,a8,a8,fun hg119=>j6.A7 p9.l5 (fun x=>x.j4) Z6 a8 (fun _=>a8) (.t a8) a8⟩,?_⟩
       refine⟨_,⟨_,_,a8,a8,fun hg120=>j6.G2 c0f (.q a8 hg120) a8⟩,?_⟩
       refine⟨_,⟨_,_,a8,a8,fun hg121=>j6.move (.t a8) a8⟩,?_⟩
       refine⟨_,⟨_,_,a8,a8,fun hg122=>j6.idx a1f underlying27 (.q a8 hg122) (.q a8 hg122) (by first|omega|(simp;omega)|(have:=hg122;simp at this;omega)) (by first|omega|(simp;omega)|(have:=hg122;simp at this;omega)) a8⟩,?_⟩
       refine⟨_,⟨_,_,a8,a8,fun hg123=>j6.A7 p8.l0 (fun x=>x.j8) a6N a8 (fun _=>a8) (.q a8 hg123) a8⟩,?_⟩
       refine⟨_,⟨_,_,a8,a8,fun hg124=>j6.G2 a2H (.q a8 hg124) a8⟩,?_⟩
       refine⟨_,⟨_,_,a8,a8,fun hg125=>j6.o7 hG (a5L _ _) (.cons (.q a8 hg125) (.cons (.q a8 hg125) .nil)) a8⟩,?_⟩
       refine⟨_,j6.a4u (.t a8) (fun hp=>(.q a8 hp)) a8,?_⟩
       refine⟨_,j6.assign (.t a8) a8,?_⟩
       show D5 _ _ _ _ _ [] ((5,_)::(126,_)::(125,_)::(124,_)::(123,_)::(122,_)::(121,_)::(120,_)::(119,_)::(118,_)::(117,_)::(116,_)::(115,_)::_) _
       refine .q 1 hG ?_
       have hf3:(V1 b.j4 i||((b.j4.take z).any fun d=>decide (d.j8=b.j4[i].j8))||decide (b.j4[i].j8=b.j4[z].j8))=(V1 b.j4 i||(b.j4.take (z+1)).any fun d=>decide (d.j8=b.j4[i].j8)):=(by rw [any_succ _ b.j4 z hz2,←Bool.or_assoc,decide_eq_decide.2 (show b.j4[i].j8=b.j4[z].j8↔b.j4[z].j8=b.j4[i].j8 from eq_comm)])
       refine .q 2 hG ?_
       refine .ad (by omega) (by omega) ?_
       refine .q 2 hG ?_
       refine⟨z+1,.cons (congrArg (fun q=>some (AV.v q)) hf3) (.c2 rfl rfl (.c2 rfl rfl (.c2 rfl rfl (.nil _)))),rfl,?_,by omega⟩
       omega
      ·refine .q 1 hG ?_
       have he1:(a0x b i||decide ((b.j4[i].j8.length:Int) < 1)||decide ((1024:Int) < (b.j4[i].j8.length:Int))||(b.j4[i].l8.take y).any a38)=a0x b (i+1):=(by rw [b2J b i hi,List.take_of_length_le hy])
       have he2:(X5 b i||(b.j4[i].l8.take y).any a3J)=X5 b (i+1):=(by rw [b1g b i hi,List.take_of_length_le hy])
       have hz:z=i:=by omega
       have he3:(V1 b.j4 i||(b.j4.take z).any fun d=>decide (d.j8=b.j4[i].j8))=V1 b.j4 (i+1):=(by rw [hz,a33 b.j4 i hi])
       refine .q 2 hG ?_
       refine .ad (by omega) (by omega) ?_
       refine .q 2 hG ?_
       refine⟨i+1,.cons (congrArg (fun q=>some (AV.v q)) he1) (.cons (congrArg (fun q=>some (AV.v q)) he2) (.cons (congrArg (fun q=>some (AV.v q)) he3) (.c2 rfl rfl (.nil _)))),rfl,?_,by omega⟩
       exact⟨by omega,by rw [any_succ a1N _ i hi,h2];unfold a1N;rw [decide_eq_false (by omega)];rfl⟩
   ·refine .q 4 hG ?_
    obtain rfl:i=b.j4.length:=by omega
    rw [List.take_length] at h2
    have hm:=c0E hc49 h2
    have hr:=a01 hc33
    refine .q 4 hG ?_
    refine .cond (.t a8) (fun hc127 => ?_) (fun hc127 => ?_)
    ·refine .q 5 hG ?_
     refine .e1 a8 a8 ?_
     rw [c0G hr hm hc127]
    ·refine .q 5 hG ?_
     refine .cond (.t a8) (fun hc129 => ?_) (fun hc129 => ?_)
     ·refine .q 5 hG ?_
      refine .e1 a8 a8 ?_
      rw [c0H hr hm hc127 hc129]
     ·refine .q 5 hG ?_
      refine .cond (.t a8) (fun hc131 => ?_) (fun hc131 => ?_)
      ·refine .q 5 hG ?_
       refine .e1 a8 a8 ?_
       rw [b8Y hr hm hc127 hc129 hc131]
      ·refine .q 1 hG ?_
       have h0:=c0I hr hm hc127 hc129 hc131
       refine .q 2 hG ?_
       refine .k hG (b8X _ (a4L h0)) ?_
       refine .q 4 hG ?_
       refine .cond (.t a8) (fun hc133 => ?_) (fun hc133 => ?_)
       ·refine .q 5 hG ?_
        refine .e1 a8 a8 ?_
        rw [a7D h0 (by simp only [decide_eq_true_eq] at hc133;omega)]
       ·refine .q 6 hG ?_
        refine .e1 a8 a8 ?_
        rw [a7E h0 (by simp only [decide_eq_false_iff_not] at hc133;omega)]
end Go.Proofs.YtmmclghiidoldaaGreatDoor
