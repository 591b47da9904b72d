/- Plain Lean over any program, and walks of this seat's functions: contracts, each proved once (part 5). -/
import Derived.Test.YtmmclghiidoldaaGreatDoorZ4
set_option maxRecDepth 1000000
set_option synthInstance.maxSize 1000000
set_option synthInstance.maxHeartbeats 10000000
set_option linter.unusedVariables false
set_option linter.unusedSimpArgs false
namespace Go.Proofs.YtmmclghiidoldaaGreatDoor
open Go.Proofs.Tryz
open Go.Fl Go.Ab Go.Mac Go.Sha
theorem a9V (s:Str) (b:List UInt8) (hs:s.l.length≤1000) (hb:b.length≤1000000):u1 gl prog 92 [.v s,.v b] (fun r=>r = .v (s.l++b)):=by
 refine u1.jn func92 (by kernel_rfl) 9 rfl fun C hC hG => ?_
 refine .q 7 hG ?_
 refine .h (.X9 underlying9 underlying86 underlying5 (.t a8) fun w6 => ?_)
 refine .q 1 hG ?_
 refine .ap (by omega) (by omega) fun w8 => ?_
 refine .q 2 hG ?_
 refine .u0 hC .z (.as 4 a8 .z ?_)
 refine .q 1 hG ?_
 refine .e1 a8 a8 ?_
 rfl
theorem b8y (e n:Int):u1 gl prog 89 [.v e,.v n] (fun r=>r = .v (J8 e n)):=by
 refine u1.jn func89 (by kernel_rfl) 19 rfl fun C hC hG => ?_
 refine .q 23 hG ?_
 refine .e1 a8 a8 ?_
 rfl
theorem b6B (n:Int) (h0:0≤n) (h1:n≤281474976710656):u1 gl prog 90 [.v n] (fun r=>r = .v (X7 n)):=by
 have hlen:=B2 (n:=n.toNat) (by omega)
 refine u1.jn func90 (by kernel_rfl) 12 rfl fun C hC hG => ?_
 refine .q 7 hG ?_
 refine .p (.o9 hG ((a1B _ _ (by decide) (by omega) (by omega)).b8n) (.cons .b3x (.cons (.t a8) .nil)) ?_)
 refine .q 9 hG ?_
 refine .p (.o9 hG (a9V _ _ (by decide) (by simp<;>omega)) (.cons (.s [109,105,110,116] (by decide) (by decide)) (.cons (.t a8) .nil)) ?_)
 refine .q 3 hG ?_
 refine .e1 a8 a8 ?_
 rfl
theorem b4i (n:Int) (h0:0≤n) (h1:n≤281474976710656):u1 gl prog 71 [.v n] (fun r=>r = .v (X7 n)):=by
 have hlen:=B2 (n:=n.toNat) (by omega)
 refine u1.jn func71 (by kernel_rfl) 6 rfl fun C hC hG => ?_
 refine .q 7 hG ?_
 refine .k hG (F4 _ (by omega) (by omega)) (.p (.o9 hG (a4H _ _ (by decide) (by omega)) (.cons (.s [109,105,110,116] (by decide) (by decide)) (.cons (.t a8) .nil)) ?_))
 refine .q 3 hG ?_
 refine .e1 a8 a8 ?_
 rfl
theorem a4a (c:Cav):(X5 c).1.length≤2100:=by
 unfold X5;split
 ·next h=>exact a2l h
 ·simp
theorem a19 (p:Pred):(V1 p).1.length≤24:=by
 unfold V1;split
 ·next h=>exact H7 (K6 h)
 ·simp
theorem b6C (c:Cav):u1 gl prog 110 [.v c] (fun r=>r = .v (a0e c)):=by
 have hlen:=a4a c
 refine u1.jn func110 (by kernel_rfl) 12 rfl fun C hC hG => ?_
 refine .q 3 hG fun b1 => ?_
 refine .q 5 hG ?_
 refine .k hG (a9U _) ?_
 refine .q 9 hG ?_
 refine .p (.o9 hG (a4H _ _ (by decide) (by omega)) (.cons (.s [99,97,118,101,97,116] (by decide) (by decide)) (.cons (.t a8) .nil)) ?_)
 refine .q 3 hG ?_
 refine .e1 a8 a8 ?_
 rfl
theorem b4j (t:List UInt8) (h:t.length≤1000000):u1 gl prog 111 [.v t] (fun r=>r = .v (D4 t)):=by
 refine u1.jn func111 (by kernel_rfl) 5 rfl fun C hC hG => ?_
 refine .q 7 hG ?_
 refine .p (.o9 hG (a4H _ _ (by decide) (by omega)) (.cons (.s [115,101,97,108] (by decide) (by decide)) (.cons (.t a8) .nil)) ?_)
 refine .q 3 hG ?_
 refine .e1 a8 a8 ?_
 rfl
theorem a7J (t:List UInt8) (h:t.length≤1000000):u1 gl prog 144 [.v t] (fun r=>r = .v (W0 t)):=by
 refine u1.jn func144 (by kernel_rfl) 5 rfl fun C hC hG => ?_
 refine .q 7 hG ?_
 refine .p (.o9 hG (a4H _ _ (by decide) (by omega)) (.cons (.s [103,114,97,110,116] (by decide) (by decide)) (.cons (.t a8) .nil)) ?_)
 refine .q 3 hG ?_
 refine .e1 a8 a8 ?_
 rfl
theorem a8W (p:Pred):u1 gl prog 145 [.v p] (fun r=>r = .v (S6 p)):=by
 have hlen:=a19 p
 refine u1.jn func145 (by kernel_rfl) 12 rfl fun C hC hG => ?_
 refine .q 3 hG fun b1 => ?_
 refine .q 5 hG ?_
 refine .k hG (a54 _) ?_
 refine .q 9 hG ?_
 refine .p (.o9 hG (a4H _ _ (by decide) (by omega)) (.cons (.s [99,111,110,100,105,116,105,111,110] (by decide) (by decide)) (.cons (.t a8) .nil)) ?_)
 refine .q 3 hG ?_
 refine .e1 a8 a8 ?_
 rfl
theorem b5B (r:Rq):u1 gl prog 104 [.v r] (fun x=>x = .v (S1 r)):=by
 refine u1.jn func104 (by kernel_rfl) 21 rfl fun C hC hG => ?_
 refine .q 3 hG fun b1 => ?_
 refine .q 25 hG ?_
 refine .e1 a8 a8 ?_
 rfl
theorem b4k (r:Rq):u1 gl prog 96 [.v r] (fun x=>x = .v (S1 r)):=by
 refine u1.jn func96 (by kernel_rfl) 21 rfl fun C hC hG => ?_
 refine .q 3 hG fun b1 => ?_
 refine .q 25 hG ?_
 refine .e1 a8 a8 ?_
 rfl
theorem b2v {r:Rq} (h:S1 r=true):(a1h r).length≤14:=by
 obtain⟨g0,g1,n0,n1⟩:=a1i h
 have l1:=B2 (n:=r.Gate.toNat) (by omega)
 have l2:=B2 (n:=r.E5.toNat) (by omega)
 unfold a1h;rw [List.length_append];omega
theorem a4R (r:Rq) (h:S1 r=true):F5 gl prog 135 [.v r] [] (fun x Hs=>∃ u,x = .raw u∧Hs = [.own 5 u (a1h r)]):=by
 obtain⟨g0,g1,n0,n1⟩:=a1i h
 have l1:=B2 (n:=r.Gate.toNat) (by omega)
 have l2:=B2 (n:=r.E5.toNat) (by omega)
 refine F5.Q4 func135 rfl (by kernel_rfl) 10 rfl rfl _ rfl _ rfl fun C hC hG => ?_
 refine .q 3 hG fun b1 => ?_
 refine .q 3 hG ?_
 refine .A8 hC .z (.O5 1 a8 .z (.a7x (by kernel_rfl) 8 [[],[(3,0)],[(4,1)],[],[(6,3)],[(7,4)],[(5,2),(8,5)],[(9,6)]] [2,6,7] a8 (by kernel_rfl) a8 (by kernel_rfl) (by decide) ?_))
 refine⟨_,fun H=>j6.A9 p9.l0 (fun x=>x.Gate) b3g a8 (fun _=>a8) (.t a8) a8,?_⟩
 refine⟨_,fun H=>j6.G9 R3 (.t a8) a8,?_⟩
 refine .inl ?_
 refine⟨_,fun H=>j6.A9 p9.l1 (fun x=>x.E5) b0c a8 (fun _=>a8) (.t a8) a8,?_⟩
 refine⟨_,fun H=>j6.G9 R3 (.t a8) a8,?_⟩
 refine⟨_,fun H=>j6.o9 hG (F4 _ (by omega) (by omega)) (.cons (.t a8) .nil) a8,?_⟩
 refine .inl (.inl ?_)
 refine A6.a08 hG (a25 _ (by omega) (by omega)) (.cons (.t rfl) .nil) fun r5 Hs5 hr5 => ?_
 obtain⟨u5,rfl,rfl⟩:=hr5
 refine A6.append P4 (.inl ⟨_,underlying86⟩) rfl .z (.v (.t rfl)) (by omega) (by omega) (fun w9 => ?_) rfl
 refine A6.ofP (j6.assign (.t rfl) ?_)
 show D6 _ _ _ _ _ [] ((2,_)::(9,_)::(8,_)::(7,_)::(6,_)::(5,_)::(4,_)::(3,_)::_) _
 refine .q 2 hG ?_
 refine .e1 a8 a8 ?_
 refine⟨_,.cons .z (.nil),?_⟩
 exact⟨_,a8,a8⟩
theorem b4l (leaf:Tag) (r:Rq) (h:S1 r=true):u1 gl prog 136 [.v leaf,.v r] (fun x=>x = .v (U0 leaf r)):=by
 obtain⟨g0,g1,n0,n1⟩:=a1i h
 have l1:=B2 (n:=r.Gate.toNat) (by omega)
 have l2:=B2 (n:=r.E5.toNat) (by omega)
 have hlb:=b2v h
 refine u1.jn func136 (by kernel_rfl) 12 rfl fun C hC hG => ?_
 refine .q 3 hG fun b2 => ?_
 refine .q 1 hG fun b3 => ?_
 refine .q 3 hG ?_
 refine .A8 hC .z1 (.O5 2 a8 .z1 (.A8 hC .z (.O5 3 a8 .z (.a7x (by kernel_rfl) 8 [[],[],[(5,0),(6,1)],[],[(8,3)],[(7,2),(9,4)],[(10,5)],[(11,6)]] [0,2,5,6,7] a8 (by kernel_rfl) a8 (by kernel_rfl) (by decide) (.inl ?_)))))
 refine⟨_,fun H=>j6.P0 (by decide) O1 (.t a8) a8,?_⟩
 refine .inl ?_
 refine⟨_,fun H=>j6.G9 a8K (.t a8) a8,?_⟩
 refine⟨_,fun H=>j6.o9 hG ((a4R _ h).b0C) (.cons (.t a8) .nil) a8,?_⟩
 refine .inl (.inl (.inl ?_))
 refine A6.buildSlice (α:=UInt8) ty5 underlying86 .nil rfl (by decide) fun b5 => ?_
 refine A6.append P4 (.inl ⟨_,underlying86⟩) rfl .z (.v (.t rfl)) (by simp) (by simp) (fun w7 => ?_) rfl
 refine A6.append P4 (.inl ⟨_,underlying86⟩) rfl .z (.v (.t rfl)) (by simp<;>omega) (by simp<;>omega) (fun w10 => ?_) rfl
 refine A6.c1a hG (a9L _ _ (by decide) (by simp [J0.len];omega)) (.cons (.e (.s [98,105,110,100] (by decide) (by decide))) (.cons (.own rfl .z) .nil)) (by rintro _ _ ⟨u,rfl,rfl⟩;exact .own) fun r11 Hs11 hr11 => ?_
 obtain⟨u11,rfl,rfl⟩:=hr11
 refine A6.ofP (j6.assign (.t rfl) ?_)
 show D6 _ _ _ _ _ [] ((4,_)::(11,_)::(10,_)::(9,_)::(8,_)::(7,_)::(6,_)::(5,_)::_) _
 refine .u0 hC .z (.as 4 a8 .z ?_)
 refine .q 2 hG ?_
 refine .e1 a8 a8 ?_
 rfl
theorem b8z (r:Rq) (h:S1 r=true):u1 gl prog 73 [.v r] (fun x=>x = .v (a1r r)):=by
 obtain⟨g0,g1,n0,n1⟩:=a1i h
 have l1:=B2 (n:=r.Gate.toNat) (by omega)
 have l2:=B2 (n:=r.E5.toNat) (by omega)
 refine u1.jn func73 (by kernel_rfl) 6 rfl fun C hC hG => ?_
 refine .q 3 hG fun b1 => ?_
 refine .q 5 hG ?_
 refine .k hG ((a4R _ h).b0C) (.p (.o9 hG (a4H _ _ (by decide) (by simp [a1h];omega)) (.cons (.s [114,101,113,117,101,115,116] (by decide) (by decide)) (.cons (.t a8) .nil)) ?_))
 refine .q 3 hG ?_
 refine .e1 a8 a8 ?_
 rfl
theorem b8A (s:Str) (b:List UInt8) (r:Rq) (hs:s.l.length≤1000) (hb:b.length≤1000) (h:S1 r=true):u1 gl prog 97 [.v s,.v b,.v r] (fun x=>x = .v (s.l++(b++a1h r))):=by
 obtain⟨g0,g1,n0,n1⟩:=a1i h
 have l1:=B2 (n:=r.Gate.toNat) (by omega)
 have l2:=B2 (n:=r.E5.toNat) (by omega)
 refine u1.jn func97 (by kernel_rfl) 26 rfl fun C hC hG => ?_
 refine .q 3 hG fun b5 => ?_
 refine .q 3 hG ?_
 refine .draw (by kernel_rfl) 11 [[],[],[(10,0),(11,1)],[],[(13,3)],[(12,2),(14,4)],[(15,5)],[(9,6)],[(9,6)],[(16,7)],[(17,8)]] a8 (by kernel_rfl) a8 ?_
 refine⟨_,j6.move (.t a8) a8,?_⟩
 refine⟨_,j6.move (.t a8) a8,?_⟩
 refine⟨_,j6.o9 hG (a9V _ _ (by omega) (by omega)) (.cons (.t a8) (.cons (.t a8) .nil)) a8,?_⟩
 refine⟨_,j6.B0 p9.l0 b3g a8 (.t a8) a8,?_⟩
 refine⟨_,j6.ldF (fun x=>x.Gate) R3 (.t a8) .z (fun _=>a8) a8,?_⟩
 refine⟨_,j6.o9 hG ((a1B _ _ (by simp<;>omega) (by omega) (by omega)).b8n) (.cons (.t a8) (.cons (.t a8) .nil)) a8,?_⟩
 refine⟨_,j6.move (.t a8) a8,?_⟩
 refine⟨_,j6.a2A (.t a8) a8,?_⟩
 refine⟨_,j6.a2B (.t a8) a8,?_⟩
 refine⟨_,j6.assign (.t a8) a8,?_⟩
 refine⟨_,j6.assign (.t a8) a8,?_⟩
 show D6 _ _ _ _ _ [] ((8,_)::(7,_)::(17,_)::(16,_)::(9,_)::(15,_)::(14,_)::(13,_)::(12,_)::(11,_)::(10,_)::_) _
 refine .q 6 hG ?_
 refine .p (.o9 hG ((a1B _ _ (by simp<;>omega) (by omega) (by omega)).b8n) (.cons (.t a8) (.cons (.t a8) .nil)) ?_)
 refine .q 11 hG ?_
 refine .e1 a8 a8 ?_
 unfold a1h;simp only [List.append_assoc]
theorem b4m {a:D3} {leaf:Tag} {r:Rq} (h:S1 r=false):a0p a leaf r=(default,false):=by unfold a0p;rw [if_neg (by rw [h];decide)]
theorem b4n {a:D3} {leaf:Tag} {r:Rq} (h:S1 r=true):a0p a leaf r=m5 a leaf (a1r r):=by unfold a0p;rw [if_pos h]
theorem b4o {a:D3} {t leaf:Tag} {r:Rq} (h:S1 r=false):V2 a t leaf r=(default,false):=by unfold V2;rw [if_neg (by rw [h];decide)]
theorem b4p {a:D3} {t leaf:Tag} {r:Rq} (h:S1 r=true):V2 a t leaf r=m5 a t (U0 leaf r):=by unfold V2;rw [if_pos h]
theorem b6D (a:D3) (leaf:Tag) (r:Rq):u1 gl prog 39 [.v a,.v leaf,.v r] (fun x=>x = .t2 (.v (a0p a leaf r).1) (.v (a0p a leaf r).2)):=by
 refine u1.jn func39 (by kernel_rfl) 19 rfl fun C hC hG => ?_
 refine .q 3 hG fun b3 => ?_
 refine .q 1 hG fun b4 => ?_
 refine .q 1 hG fun b5 => ?_
 refine .q 1 hG fun b6 => ?_
 refine .q 6 hG ?_
 refine .k hG (b4k _) ?_
 refine .q 2 hG ?_
 refine .cond (.t a8) (fun hc10 => ?_) (fun hc10 => ?_)
 ·refine .q 2 hG ?_
  refine .p (.P8 (default:(J0 32 UInt8)) A5 O1 .nil a8 ?_)
  refine .q 4 hG ?_
  refine⟨_,.r2 a8 (.cell A5 a8 .z) (.tmp a8),?_⟩
  rw [b4m (by simpa using hc10)]
 ·refine .q 2 hG ?_
  have hro:S1 r=true:=by simpa using hc10
  refine .draw (by kernel_rfl) 7 [[],[],[],[(14,2)],[(12,0),(13,1),(15,3)],[(16,4)],[(16,4)]] a8 (by kernel_rfl) a8 ?_
  refine⟨_,j6.T1 A0 (.t a8) .z3 a8,?_⟩
  refine⟨_,j6.T1 A5 (.t a8) .z2 a8,?_⟩
  refine⟨_,j6.T1 a8K (.t a8) .z1 a8,?_⟩
  refine⟨_,j6.o9 hG (b8A _ _ _ (by decide) (by decide) (by simpa using ‹(!S1 r)=false›)) (.cons (.s [114,101,113,117,101,115,116] (by decide) (by decide)) (.cons .b3x (.cons (.t a8) .nil))) a8,?_⟩
  refine⟨_,j6.o9 hG (a1A _ _ _) (.cons (.t a8) (.cons (.t a8) (.cons (.t a8) .nil))) a8,?_⟩
  refine⟨_,j6.a2A (.t a8) a8,?_⟩
  refine⟨_,j6.a2B (.t a8) a8,?_⟩
  show D6 _ _ _ _ _ [_,_] ((18,_)::(17,_)::(16,_)::(15,_)::(14,_)::(13,_)::(12,_)::_) _
  refine .q 4 hG ?_
  refine⟨_,.r2 a8 (.cell A5 a8 .z) (.tmp a8),?_⟩
  rw [b4n hro]
  rfl
theorem b6E (a:D3) (t leaf:Tag) (r:Rq):u1 gl prog 103 [.v a,.v t,.v leaf,.v r] (fun x=>x = .t2 (.v (V2 a t leaf r).1) (.v (V2 a t leaf r).2)):=by
 refine u1.jn func103 (by kernel_rfl) 22 rfl fun C hC hG => ?_
 refine .q 3 hG fun b4 => ?_
 refine .q 1 hG fun b5 => ?_
 refine .q 1 hG fun b6 => ?_
 refine .q 1 hG fun b7 => ?_
 refine .q 1 hG fun b8 => ?_
 refine .q 6 hG ?_
 refine .k hG (b4k _) ?_
 refine .q 2 hG ?_
 refine .cond (.t a8) (fun hc12 => ?_) (fun hc12 => ?_)
 ·refine .q 2 hG ?_
  refine .p (.P8 (default:(J0 32 UInt8)) A5 O1 .nil a8 ?_)
  refine .q 4 hG ?_
  refine⟨_,.r2 a8 (.cell A5 a8 .z) (.tmp a8),?_⟩
  rw [b4o (by simpa using hc12)]
 ·refine .q 2 hG ?_
  refine .A8 hC .z2 (.O5 6 a8 .z2 ?_)
  have hro:S1 r=true:=by simpa using hc12
  refine .draw (by kernel_rfl) 8 [[],[],[],[],[(16,2),(17,3)],[(14,0),(15,1),(18,4)],[(19,5)],[(19,5)]] a8 (by kernel_rfl) a8 ?_
  refine⟨_,j6.T1 A0 (.t a8) .z4 a8,?_⟩
  refine⟨_,j6.T1 A5 (.t a8) .z3 a8,?_⟩
  refine⟨_,j6.P0 (by decide) O1 (.t a8) a8,?_⟩
  refine⟨_,j6.T1 a8K (.t a8) .z1 a8,?_⟩
  refine⟨_,j6.o9 hG (b8A _ _ _ (by decide) (by simp [J0.len]) (by simpa using ‹(!S1 r)=false›)) (.cons (.s [98,105,110,100] (by decide) (by decide)) (.cons (.t a8) (.cons (.t a8) .nil))) a8,?_⟩
  refine⟨_,j6.o9 hG (a1A _ _ _) (.cons (.t a8) (.cons (.t a8) (.cons (.t a8) .nil))) a8,?_⟩
  refine⟨_,j6.a2A (.t a8) a8,?_⟩
  refine⟨_,j6.a2B (.t a8) a8,?_⟩
  show D6 _ _ _ _ _ [_,_] ((21,_)::(20,_)::(19,_)::(18,_)::(17,_)::(16,_)::(15,_)::(14,_)::_) _
  refine .q 4 hG ?_
  refine⟨_,.r2 a8 (.cell A5 a8 .z) (.tmp a8),?_⟩
  rw [b4p hro]
  rfl
theorem c2z (a:D3) (k:Tag) (t:List UInt8) (l:List Pred) (ht:t.length≤1000000):u1 gl prog 114 [.v a,.v k,.v t,.v l] (fun x=>x = .t2 (.v (a1H a k t l).1) (.v (a1H a k t l).2)):=by
 refine u1.jn func114 (by kernel_rfl) 60 rfl fun C hC hG => ?_
 refine .q 3 hG fun b4 => ?_
 refine .q 1 hG fun b5 => ?_
 refine .q 1 hG fun b8 => ?_
 refine .q 3 hG ?_
 refine .A8 hC .z2 (.O5 4 a8 .z2 (.A8 hC .z1 (.O5 5 a8 .z1 (.S0 3 a8 fun hl3=>(.E0 [j1,j1,j1] (by kernel_rfl) 11 [[],[],[],[(16,2)],[(14,0),(15,1),(17,3)],[(18,4)],[(13,5)],[(13,5)],[],[(10,8),(19,6)],[(20,7)]] [8,9] a8 (by kernel_rfl) a8 (by kernel_rfl) (by decide) ?_)))))
 refine⟨_,fun H=>j6.G9 A0 (.t a8) a8,?_⟩
 refine⟨_,fun H=>j6.G9 A5 (.t a8) a8,?_⟩
 refine⟨_,fun H=>j6.move (.t a8) a8,?_⟩
 refine⟨_,fun H=>j6.o9 hG (a7J _ ht) (.cons (.t a8) .nil) a8,?_⟩
 refine⟨_,fun H=>j6.o9 hG (b5w _ _ _) (.cons (.t a8) (.cons (.t a8) (.cons (.t a8) .nil))) a8,?_⟩
 refine⟨_,fun H=>j6.move (.t a8) a8,?_⟩
 refine⟨_,fun H=>j6.a2A (.t a8) a8,?_⟩
 refine⟨_,fun H=>j6.a2B (.t a8) a8,?_⟩
 refine .inl (.inl ?_)
 refine⟨_,fun H=>j6.assign (.t a8) a8,?_⟩
 refine⟨⟨([],j2 [c8,c8,c8]),a8⟩,?_⟩
 refine A6.alloc A5 fun b10 => ?_
 refine⟨⟨([_],j2 [c8,c8,c8]),a8⟩,?_⟩
 refine A6.Q1 A5 (.t rfl) (.t rfl) .z ?_
 refine⟨⟨([_],j2 [c8,c8,c8]),a8⟩,?_⟩
 show D6 _ _ _ _ _ [] ((11,_)::(10,_)::(20,_)::(19,_)::(13,_)::(18,_)::(17,_)::(16,_)::(15,_)::(14,_)::_) _
 refine .q 3 hG ?_
 have hz:=a9R a k t l
 refine .q 4 hG ?_
 refine .E3 (α:=Nat) [(3,_),(4,_),(8,_),(10,_)] (fun x R=>(11,.v (S2 a k t (l.take x)).isSome)::(12,.v (x:Int))::R) (fun x => [(true,.ob (ptr b10 0) ((S2 a k t (l.take x)).getD default)),(true,.ob (ptr b8 0) (default:Tag)),(true,.fz (ptr b5 0) (.p k)),(true,.fz (ptr b4 0) (.p a))]) (fun x=>x≤l.length) (fun x=>l.length - x) (0) (.c2 a8 a8 (.c2 a8 a8 (.nil _))) ?_ (.cons (congrArg (fun q=>some (AV.v q)) hz.1.symm) (.c2 a8 a8 (.c2 a8 a8 (.cons a8 (.nil _))))) (congrArg (fun q => [(true,E4.ob _ q),_,_,_]) hz.2.symm) fun x hF => ?_
 ·simp
 refine .q 11 hG ?_
 refine .cond (.t a8) (fun hc27 => ?_) (fun hc27 => ?_)
 ·refine .q 5 hG ?_
  have hlt:x < l.length∧(S2 a k t (l.take x)).isSome=true:=by simpa using hc27
  refine .q 3 hG ?_
  refine .ix (by omega) (by omega) ?_
  refine .q 1 hG ?_
  refine .k hG (a1f _) ?_
  refine .q 4 hG ?_
  refine .go 36 a8 (.t a8) (fun hg39 => .idx Q5 underlying83 (.q a8 hg39) (.q a8 hg39) (by first|omega|(simp;omega)|(have:=hg39;simp at this;omega)) (by first|omega|(simp;omega)|(have:=hg39;simp at this;omega)) a8) ?_
  refine .q 5 hG ?_
  refine .cond (.t a8) (fun hc43 => ?_) (fun hc43 => ?_)
  ·refine .q 2 hG ?_
   refine .p (.P8 (default:(J0 32 UInt8)) A5 O1 .nil a8 ?_)
   refine .q 4 hG ?_
   refine⟨_,.r2 a8 (.cell A5 a8 .z1) (.tmp a8),?_⟩
   have e:a1H a k t l=(default,false):=by unfold a1H;rw [b2o hlt.1 hc43];rfl
   rw [e]
  ·refine .q 1 hG ?_
   have hst:=a9S hlt.1 hlt.2 hc43
   refine .a1a [[j1,j1,j1,j1],[j0,j1,j1,j1]] [[j1,j1,j1,j1],[j1,j1,j1,j1],[j1,j1,j1,j1],[j1,j1,j1,j1],[j1,j1,j1,j1],[j1,j1,j1,j1],[j1,j1,j1,j1],[j1,j1,j1,j1],[j1,j1,j1,j1],[j1,j1,j1,j1],[j0,j1,j1,j1],[],[j0,j1,j1,j1]] [] [] 1 (by kernel_rfl) 13 [[],[],[],[],[(48,2),(49,3)],[(50,4)],[(51,5)],[(46,0),(47,1),(52,6)],[(53,7)],[(45,8)],[(45,8)],[(54,9)],[(55,10)]] [11] rfl (by kernel_rfl) rfl (by kernel_rfl) rfl (by decide) (by simp) (fun p hp=>by cases hp) (by kernel_rfl) rfl ?_
   refine⟨_,fun H=>j6.G9 A0 (.t a8) a8,?_⟩
   refine⟨_,fun H=>j6.T1 A5 (.t a8) (u4.app .z) a8,?_⟩
   refine⟨_,fun H=>j6.move (.t a8) a8,?_⟩
   refine⟨_,fun H=>j6.move (.t a8) a8,?_⟩
   refine⟨_,fun H=>j6.idx Q5 underlying83 (.t a8) (.t a8) (by omega) (by omega) a8,?_⟩
   refine⟨_,fun H=>j6.G9 Q5 (.t a8) a8,?_⟩
   refine⟨_,fun H=>j6.o9 hG (a8W _) (.cons (.t a8) .nil) a8,?_⟩
   refine⟨_,fun H=>j6.o9 hG (b5w _ _ _) (.cons (.t a8) (.cons (.t a8) (.cons (.t a8) .nil))) a8,?_⟩
   refine⟨_,fun H=>j6.move (.t a8) a8,?_⟩
   refine⟨_,fun H=>j6.a2A (.t a8) a8,?_⟩
   refine⟨_,fun H=>j6.a2B (.t a8) a8,?_⟩
   refine .inl ?_
   refine⟨_,fun H=>j6.assign (.t a8) a8,?_⟩
   refine⟨a8,?_⟩
   refine⟨⟨j2 [c8,c8,c8,c8],a8⟩,fun Ys7 => ?_⟩
   refine A6.Q1 A5 (.t rfl) (.t rfl) (u4.app (u4.app .z)) ?_
   refine⟨[],_,a8,?_⟩
   refine⟨⟨j2 [_,c8,c8,c8],a8⟩,fun ws7 => ?_⟩
   refine⟨⟨j2 [_,c8,c8,c8],a8⟩,fun _ => ?_⟩
   show D6 _ _ _ _ _ [] ((11,_)::(55,_)::(54,_)::(45,_)::(53,_)::(52,_)::(51,_)::(50,_)::(49,_)::(48,_)::(47,_)::(46,_)::_) _
   refine .q 3 hG ?_
   refine .ad (by omega) (by omega) ?_
   refine .q 2 hG ?_
   refine⟨x+1,.cons (congrArg (fun q=>some (AV.v q)) hst.1.symm) (.c2 rfl rfl (.c2 rfl rfl (.cons rfl (.nil _)))),congrArg (fun q => [(true,E4.ob _ q),_,_,_]) hst.2.symm,?_,by omega⟩
   omega
 ·refine .q 7 hG ?_
  refine .cond (.t a8) (fun hc57 => ?_) (fun hc57 => ?_)
  ·refine .q 2 hG ?_
   refine .p (.P8 (default:(J0 32 UInt8)) A5 O1 .nil a8 ?_)
   refine .q 4 hG ?_
   refine⟨_,.r2 a8 (.cell A5 a8 .z1) (.tmp a8),?_⟩
   have hn:S2 a k t l=none:=a66 a k t l x (by simpa using hc57)
   have e:a1H a k t l=(default,false):=by unfold a1H;rw [hn];rfl
   rw [e]
  ·refine .q 8 hG ?_
   refine⟨_,.r2 a8 (.cell A5 a8 .z1) (.tmp a8),?_⟩
   have h57:(S2 a k t (l.take x)).isSome=true:=by simpa using hc57
   have hx:l.length≤x:=by simpa [h57] using hc27
   rw [List.take_of_length_le hx] at h57 ⊢
   unfold a1H
   rw [h57]
theorem b8B (a:D3) (k:Tag) (t:List UInt8) (l:List Pred) (ht:t.length≤1000000):u1 gl prog 102 [.v a,.v k,.v t,.v l] (fun x=>x = .t2 (.v (a1H a k t l).1) (.v (a1H a k t l).2)):=by
 refine u1.jn func102 (by kernel_rfl) 58 rfl fun C hC hG => ?_
 refine .q 3 hG fun b4 => ?_
 refine .q 1 hG fun b5 => ?_
 refine .q 1 hG fun b8 => ?_
 refine .q 3 hG ?_
 refine .A8 hC .z2 (.O5 4 a8 .z2 (.A8 hC .z1 (.O5 5 a8 .z1 (.S0 3 a8 fun hl3=>(.E0 [j1,j1,j1] (by kernel_rfl) 11 [[],[],[],[(19,2)],[(17,0),(18,1),(20,3)],[(21,4)],[(16,5)],[(16,5)],[],[(10,8),(22,6)],[(23,7)]] [8,9] a8 (by kernel_rfl) a8 (by kernel_rfl) (by decide) ?_)))))
 refine⟨_,fun H=>j6.G9 A0 (.t a8) a8,?_⟩
 refine⟨_,fun H=>j6.G9 A5 (.t a8) a8,?_⟩
 refine⟨_,fun H=>j6.move (.t a8) a8,?_⟩
 refine⟨_,fun H=>j6.o9 hG (a9V _ _ (by decide) (by omega)) (.cons (.s [103,114,97,110,116] (by decide) (by decide)) (.cons (.t a8) .nil)) a8,?_⟩
 refine⟨_,fun H=>j6.o9 hG (a1A _ _ _) (.cons (.t a8) (.cons (.t a8) (.cons (.t a8) .nil))) a8,?_⟩
 refine⟨_,fun H=>j6.move (.t a8) a8,?_⟩
 refine⟨_,fun H=>j6.a2A (.t a8) a8,?_⟩
 refine⟨_,fun H=>j6.a2B (.t a8) a8,?_⟩
 refine .inl (.inl ?_)
 refine⟨_,fun H=>j6.assign (.t a8) a8,?_⟩
 refine⟨⟨([],j2 [c8,c8,c8]),a8⟩,?_⟩
 refine A6.alloc A5 fun b10 => ?_
 refine⟨⟨([_],j2 [c8,c8,c8]),a8⟩,?_⟩
 refine A6.Q1 A5 (.t rfl) (.t rfl) .z ?_
 refine⟨⟨([_],j2 [c8,c8,c8]),a8⟩,?_⟩
 show D6 _ _ _ _ _ [] ((11,_)::(10,_)::(23,_)::(22,_)::(16,_)::(21,_)::(20,_)::(19,_)::(18,_)::(17,_)::_) _
 refine .q 3 hG ?_
 have hz:=a9R a k t l
 refine .q 6 hG ?_
 refine .E3 (α:=Nat) [(4,_),(8,_),(10,_),(24,_),(25,_)] (fun x R=>(11,.v (S2 a k t (l.take x)).isSome)::(26,.v (x:Int))::R) (fun x => [(true,.ob (ptr b10 0) ((S2 a k t (l.take x)).getD default)),(true,.ob (ptr b8 0) (default:Tag)),(true,.fz (ptr b5 0) (.p k)),(true,.fz (ptr b4 0) (.p a))]) (fun x=>x≤l.length) (fun x=>l.length - x) (0) (.c2 a8 a8 (.c2 a8 a8 (.cons a8 (.nil _)))) ?_ (.cons (congrArg (fun q=>some (AV.v q)) hz.1.symm) (.c2 a8 a8 (.c2 a8 a8 (.c2 a8 a8 (.nil _))))) (congrArg (fun q => [(true,E4.ob _ q),_,_,_]) hz.2.symm) fun x hF => ?_
 ·simp
 refine .q 6 hG ⟨fun hc27 => ?_,fun hc27 => ?_⟩
 ·refine .q 5 hG ?_
  refine .ix (by omega) (by omega) ?_
  refine .q 2 hG fun b13 => ?_
  refine .q 3 hG ?_
  have hlt:x < l.length:=by omega
  refine .A8 hC .z (.O5 13 a8 .z (.drop ?_))
  refine .q 2 hG ?_
  refine .k hG (a65 _) ?_
  refine .q 21 hG ?_
  refine .cond (.t a8) (fun hc45 => ?_) (fun hc45 => ?_)
  ·refine .q 2 hG ?_
   refine .p (.P8 (default:(J0 32 UInt8)) A5 O1 .nil a8 ?_)
   refine .q 4 hG ?_
   refine⟨_,.r2 a8 (.cell A5 a8 .z1) (.tmp a8),?_⟩
   rw [a7E] at hc45
   have hn:S2 a k t l=none:=(by by_cases hs:(S2 a k t (l.take x)).isSome=true;exact b2o hlt (by simp_all);exact a66 a k t l x (by simpa using hs))
   have e:a1H a k t l=(default,false):=by unfold a1H;rw [hn];rfl
   rw [e]
  ·refine .q 1 hG ?_
   rw [a7E] at hc45
   have hlt2:(S2 a k t (l.take x)).isSome=true:=by simp_all
   have hst:=a9S hlt hlt2 (by simp_all)
   have hpl:=a19 l[x]
   refine .a1a [[j1,j1,j1,j1],[j0,j1,j1,j1]] [[j1,j1,j1,j1],[j1,j1,j1,j1],[j1,j1,j1,j1],[j1,j1,j1,j1],[j1,j1,j1,j1],[j1,j1,j1,j1],[j1,j1,j1,j1],[j0,j1,j1,j1],[],[j0,j1,j1,j1]] [] [] 1 (by kernel_rfl) 10 [[],[],[],[(50,2)],[(48,0),(49,1),(51,3)],[(52,4)],[(47,5)],[(47,5)],[(53,6)],[(54,7)]] [8] rfl (by kernel_rfl) rfl (by kernel_rfl) rfl (by decide) (by simp) (fun p hp=>by cases hp) (by kernel_rfl) rfl ?_
   refine⟨_,fun H=>j6.G9 A0 (.t a8) a8,?_⟩
   refine⟨_,fun H=>j6.T1 A5 (.t a8) (u4.app .z) a8,?_⟩
   refine⟨_,fun H=>j6.move (.t a8) a8,?_⟩
   refine⟨_,fun H=>j6.o9 hG (a9V _ _ (by decide) (Nat.le_trans (a19 _) (by decide))) (.cons (.s [99,111,110,100,105,116,105,111,110] (by decide) (by decide)) (.cons (.t a8) .nil)) a8,?_⟩
   refine⟨_,fun H=>j6.o9 hG (a1A _ _ _) (.cons (.t a8) (.cons (.t a8) (.cons (.t a8) .nil))) a8,?_⟩
   refine⟨_,fun H=>j6.move (.t a8) a8,?_⟩
   refine⟨_,fun H=>j6.a2A (.t a8) a8,?_⟩
   refine⟨_,fun H=>j6.a2B (.t a8) a8,?_⟩
   refine .inl ?_
   refine⟨_,fun H=>j6.assign (.t a8) a8,?_⟩
   refine⟨a8,?_⟩
   refine⟨⟨j2 [c8,c8,c8,c8],a8⟩,fun Ys8 => ?_⟩
   refine A6.Q1 A5 (.t rfl) (.t rfl) (u4.app (u4.app .z)) ?_
   refine⟨[],_,a8,?_⟩
   refine⟨⟨j2 [_,c8,c8,c8],a8⟩,fun ws8 => ?_⟩
   refine⟨⟨j2 [_,c8,c8,c8],a8⟩,fun _ => ?_⟩
   show D6 _ _ _ _ _ [] ((11,_)::(54,_)::(53,_)::(47,_)::(52,_)::(51,_)::(50,_)::(49,_)::(48,_)::_) _
   refine .q 2 hG ?_
   refine .ad (by omega) (by omega) ?_
   refine .q 2 hG ?_
   refine⟨x+1,.cons (congrArg (fun q=>some (AV.v q)) hst.1.symm) (.c2 rfl rfl (.c2 rfl rfl (.c2 rfl rfl (.nil _)))),congrArg (fun q => [(true,E4.ob _ q),_,_,_]) hst.2.symm,?_,by omega⟩
   omega
 ·refine .q 9 hG ?_
  refine⟨_,.r2 a8 (.cell A5 a8 .z1) (.tmp a8),?_⟩
  rw [List.take_of_length_le (by omega)]
  rfl
theorem c18 (k:Tag) (l:List (List UInt8)) (hl:l.length≤1000000) (p:Tag→List UInt8→Tag×Bool):u1 gl prog 93 [.v k,.v l,.b8o prog p] (fun x=>x = .t2 (.v ((M9 p k l).getD [])) (.v (M9 p k l).isSome)):=by
 refine u1.jn func93 (by kernel_rfl) 41 rfl fun C hC hG => ?_
 refine .q 3 hG fun b3 => ?_
 refine .q 4 hG ?_
 refine .A8 hC .z (.O5 3 a8 .z (.drop ?_))
 refine .q 2 hG ?_
 refine .bs a8 (by decide) fun b14 => ?_
 refine .q 10 hG ?_
 refine .E3 (α:=Nat×Value×List Tag) [(2,_),(15,_),(16,_)] (fun x R=>(8,.raw x.2.1)::(17,.v (x.1:Int))::R) (fun x => [(true,.own 26 x.2.1 x.2.2)]) (fun x=>x.1≤l.length∧M9 p k (l.take x.1)=some x.2.2∧x.2.2.length=x.1+1) (fun x=>l.length - x.1) ((0,slc b14 0 1 1,[k])) (.c2 a8 a8 (.cons a8 (.nil _))) ?_ (.c2 a8 a8 (.c2 a8 a8 (.cons a8 (.nil _)))) (a8) fun x hF => ?_
 ·exact⟨Nat.zero_le _,a8,a8⟩
 obtain⟨i,w,s⟩:=x
 obtain⟨h1,h2,h3⟩:=hF
 dsimp only at h1 h2 h3 ⊢
 refine .q 6 hG ⟨fun hc18 => ?_,fun hc18 => ?_⟩
 ·refine .q 5 hG ?_
  refine .ix (by omega) (by omega) ?_
  refine .q 8 hG ?_
  refine .p (.a4y underlying54 a8 .z ?_)
  refine .sb (by omega) (by omega) (.p (.X3 A5 underlying54 a8 .z (.t a8) (by omega) (by omega) (.p (.b3z A5 (.t a8) .z (by omega) ?_))))
  refine .q 1 hG ?_
  refine .p (.b6s a8 (.t a8) (.t a8) ?_)
  refine .q 4 hG fun b11 => ?_
  refine .q 2 hG ?_
  refine .A8 hC .z (.O5 11 a8 .z (.drop ?_))
  refine .q 3 hG ?_
  rw [b2p (by omega)] at *
  refine .q 4 hG ?_
  refine .cond (.t a8) (fun hc34 => ?_) (fun hc34 => ?_)
  ·refine .q 6 hG ?_
   refine .e2 a8 a8 a8 ?_
   have e:M9 p k l=none:=b8u (by omega) h2 (by simpa using hc34)
   rw [e];rfl
  ·refine .q 4 hG ?_
   refine .bs a8 (by decide) fun b37 => ?_
   refine .ap (by simp<;>omega) (by simp<;>omega) fun w38 => ?_
   refine .q 1 hG ?_
   refine .drop ?_
   refine .q 2 hG ?_
   refine .ad (by omega) (by omega) ?_
   refine .q 2 hG ?_
   refine⟨(i+1,_,_),.c2 rfl rfl (.c2 rfl rfl (.cons rfl (.nil _))),rfl,?_,by dsimp only;omega⟩
   exact⟨by dsimp only;omega,b6x (by omega) h2 (by simpa using hc34),by simp;omega⟩
 ·refine .q 2 hG ?_
  refine .u0 hC .z (.as 8 a8 .z ?_)
  refine .q 6 hG ?_
  refine .e2 a8 a8 a8 ?_
  rw [List.take_of_length_le (by omega)] at h2
  rw [h2];rfl
theorem c0o (a:D3) (k:Tag) (m:List UInt8):u1 gl prog 94 [.v k,.v m,.p a] (fun r=>r = .t2 (.v (m5 a k m).1) (.v (m5 a k m).2)):=by
 refine u1.jn func94 (by kernel_rfl) 13 rfl fun C hC hG => ?_
 refine .q 3 hG fun b3 => ?_
 refine .q 1 hG fun b5 => ?_
 refine .q 7 hG ?_
 refine .p (.o9 hG (a1A _ _ _) (.cons (.t a8) (.cons (.t a8) (.cons (.t a8) .nil))) ?_)
 refine .q 6 hG ?_
 refine⟨_,.r2 a8 (.cell A5 a8 .z) (.tmp a8),?_⟩
 rfl
theorem c19 (a:D3) (root:u7) (n:Int) (l:List Cav) (hl:l.length≤100000):u1 gl prog 38 [.v a,.v root,.v n,.v l] (fun x=>x = .t2 (.v (Y4 a root n l).1) (.v (Y4 a root n l).2)):=by
 refine u1.jn func38 (by kernel_rfl) 57 rfl fun C hC hG => ?_
 refine .q 3 hG fun b4 => ?_
 refine .q 1 hG fun b5 => ?_
 refine .q 5 hG ?_
 refine .A8 hC .z1 (.O5 4 a8 .z1 (.A8 hC .z (.O5 5 a8 .z ?_)))
 refine .q 4 hG ?_
 refine .p (.o9 hG (b8y _ _) (.cons (.t a8) (.cons (.t a8) .nil)) ?_)
 refine .q 2 hG ?_
 refine .cond (.t a8) (fun hc21 => ?_) (fun hc21 => ?_)
 ·refine .q 6 hG ?_
  refine .e2 a8 a8 a8 ?_
  rw [c0k (by simpa using hc21)]
 ·refine .q 2 hG ?_
  have hro:J8 root.Number n=true:=by simpa using hc21
  have hr:=a7F hro
  refine .q 2 hG ?_
  refine .k hG (b6B _ (by omega) (by omega)) ?_
  refine .bs a8 (by decide) fun b24 => ?_
  refine .q 10 hG ?_
  refine .E3 (α:=Nat×Value) [(4,_),(5,_),(25,_),(26,_)] (fun x R=>(10,.raw x.2)::(27,.v (x.1:Int))::R) (fun x => [(true,.own 86 x.2 (D0 n (l.take x.1))),(true,.fz (ptr b5 0) (.p root)),(true,.fz (ptr b4 0) (.p a))]) (fun x=>x.1≤l.length∧(l.take x.1).all H5=true) (fun x=>l.length - x.1) ((0,slc b24 0 1 1)) (.c2 a8 a8 (.c2 a8 a8 (.nil _))) ?_ (.c2 a8 a8 (.c2 a8 a8 (.c2 a8 a8 (.nil _)))) (a8) fun x hF => ?_
  ·exact⟨Nat.zero_le _,a8⟩
  obtain⟨i,w⟩:=x
  obtain⟨h1,h2⟩:=hF
  dsimp only at h1 h2 ⊢
  refine .q 6 hG ⟨fun hc28 => ?_,fun hc28 => ?_⟩
  ·refine .q 5 hG ?_
   refine .ix (by omega) (by omega) ?_
   refine .q 2 hG fun b12 => ?_
   refine .q 3 hG ?_
   refine .A8 hC .z (.O5 12 a8 .z (.drop ?_))
   refine .q 2 hG ?_
   refine .k hG (b2u _) ?_
   refine .q 13 hG ⟨fun hc37 => ?_,fun hc37 => ?_⟩
   ·refine .q 7 hG ?_
    refine .e2 a8 a8 a8 ?_
    have hco:H5 l[i]=false:=by cases hc:H5 l[i];rfl;(exact absurd (by rw [show X5 l[(i:Int).toNat]=X5 l[i] from rfl,a1I hc]) hc37)
    rw [show X5 l[(i:Int).toNat]=([],5) from a5i (by rw [show H5 l[(i:Int).toNat]=false from hco];decide),c0l hro (b0G H5 l i (by omega) hco)]
   ·refine .q 1 hG ?_
    have hco:H5 l[i]=true:=by cases hc:H5 l[i];(exact absurd (by rw [show X5 l[(i:Int).toNat]=X5 l[i] from rfl,a5i (by rw [hc];decide)];decide) hc37);rfl
    have hcl:=a5B n (l.take i)
    have htl:(l.take i).length≤l.length:=by simp;omega
    refine .q 3 hG ?_
    refine .p (.o9 hG (a9V _ _ (by decide) (Nat.le_trans (a4a _) (by decide))) (.cons (.s [99,97,118,101,97,116] (by decide) (by decide)) (.cons (.t a8) .nil)) ?_)
    refine .bs a8 (by decide) fun b42 => ?_
    refine .ap (by simp<;>omega) (by simp<;>omega) fun w43 => ?_
    refine .q 1 hG ?_
    refine .drop ?_
    refine .q 2 hG ?_
    refine .ad (by omega) (by omega) ?_
    refine .q 2 hG ?_
    refine⟨(i+1,_),.c2 rfl rfl (.c2 rfl rfl (.c2 rfl rfl (.nil _))),congrArg (fun q => [(true,E4.own _ _ q),_,_]) (a8U n l i (by omega)).symm,?_,by dsimp only;omega⟩
    exact⟨by dsimp only;omega,by rw [all_succ H5 l i (by omega),h2,hco];rfl⟩
  ·refine .q 2 hG ?_
   have ht:=List.take_of_length_le (show l.length≤i by omega)
   rw [ht] at h2 ⊢
   have hcl:=a5B n l
   refine .u0 hC .z (.as 10 a8 .z ?_)
   refine .q 4 hG ?_
   refine .p (.c0g hG (fun x y=>c0o a x y) (.cons (.t a8) .nil) (.p (.o9 hG (c18 _ _ (by omega) _) (.cons (.t a8) (.cons (.t a8) (.cons (.t a8) .nil))) ?_)))
   refine .q 12 hG ?_
   refine .cond (.t a8) (fun hc54 => ?_) (fun hc54 => ?_)
   ·refine .q 6 hG ?_
    refine .e2 a8 a8 a8 ?_
    rw [b8v hro h2 (by simpa using hc54)]
   ·refine .q 2 hG ?_
    obtain⟨T0,hT⟩:=Option.isSome_iff_exists.1 (show(M9 (m5 a) root.Key (D0 n l)).isSome=true by simpa using hc54)
    obtain⟨T,hT2,hT3⟩:=a57 (k:=root.Key) hT
    subst hT2
    rw [hT]
    refine .q 2 hG ?_
    refine .p (.b7K A5 underlying54 (.t a8) (.i a8) (by omega) (by simp<;>omega) ?_)
    refine .q 4 hG ?_
    refine .e2 a8 a8 a8 ?_
    rw [c0m hro h2 hT];rfl
theorem c0p (a:D3) (l:List Tag) (hl:l.length≤100000):u1 gl prog 40 [.v a,.v l] (fun x=>x = .t2 (.v (a1G a l).1) (.v (a1G a l).2)):=by
 refine u1.jn func40 (by kernel_rfl) 33 rfl fun C hC hG => ?_
 refine .q 3 hG fun b2 => ?_
 refine .q 4 hG ?_
 refine .A8 hC .z (.O5 2 a8 .z ?_)
 refine .q 1 hG ?_
 refine .p (.assign .raw ?_)
 refine .q 3 hG ?_
 refine .a1z 26 Tag ?_
 refine .q 6 hG ?_
 refine .E3 (α:=Nat×Value×List Tag) [(2,_),(11,_),(12,_)] (fun x R=>(6,.raw x.2.1)::(13,.v (x.1:Int))::R) (fun x => [(true,.own 26 x.2.1 x.2.2),(true,.fz (ptr b2 0) (.p a))]) (fun x=>x.1≤l.length∧a0R a (l.take x.1)=some x.2.2∧x.2.2.length=x.1) (fun x=>l.length - x.1) ((0,.slice none 0 0,[])) (.c2 a8 a8 (.cons a8 (.nil _))) ?_ (.c2 a8 a8 (.c2 a8 a8 (.cons a8 (.nil _)))) (a8) fun x hF => ?_
 ·exact⟨Nat.zero_le _,a8,a8⟩
 obtain⟨i,w,s⟩:=x
 obtain⟨h1,h2,h3⟩:=hF
 dsimp only at h1 h2 h3 ⊢
 refine .q 6 hG ⟨fun hc14 => ?_,fun hc14 => ?_⟩
 ·refine .q 5 hG ?_
  refine .ix (by omega) (by omega) ?_
  refine .q 2 hG fun b8 => ?_
  refine .q 3 hG ?_
  refine .A8 hC .z (.O5 8 a8 .z (.drop ?_))
  refine .q 3 hG ?_
  refine .bs a8 (by decide) fun b20 => .h (.same underlying86 underlying5 a8 .z (by simp) (.u0 hC .z (.as 21 a8 .z (.p (.o9 hG (a1A _ _ _) (.cons (.t a8) (.cons (.t a8) (.cons (.t a8) .nil))) ?_)))))
  refine .q 4 hG fun b9 => ?_
  refine .q 5 hG ?_
  refine .A8 hC .z (.O5 9 a8 .z (.drop (.drop ?_)))
  refine .q 4 hG ?_
  refine .cond (.t a8) (fun hc26 => ?_) (fun hc26 => ?_)
  ·refine .q 6 hG ?_
   refine .e2 a8 a8 a8 ?_
   have e:a0R a l=none:=b6z (i:=i) (by omega) (by simpa [G2] using hc26)
   unfold a1G
   rw [e]
  ·refine .q 4 hG ?_
   refine .bs a8 (by decide) fun b29 => ?_
   refine .ap (by simp<;>omega) (by simp<;>omega) fun w30 => ?_
   refine .q 1 hG ?_
   refine .drop ?_
   refine .q 2 hG ?_
   refine .ad (by omega) (by omega) ?_
   refine .q 2 hG ?_
   refine⟨(i+1,_,_),.c2 rfl rfl (.c2 rfl rfl (.cons rfl (.nil _))),rfl,?_,by dsimp only;omega⟩
   exact⟨by dsimp only;omega,b4f (i:=i) (by omega) h2 (by simpa [G2] using hc26),by simp;omega⟩
 ·refine .q 2 hG ?_
  refine .u0 hC .z (.as 6 a8 .z ?_)
  refine .q 6 hG ?_
  refine .e2 a8 a8 a8 ?_
  rw [List.take_of_length_le (by omega)] at h2
  unfold a1G
  rw [h2]
theorem b8C (a:D3) (k:Tag) (m:List UInt8):u1 gl prog 70 [.v a,.v k,.v m] (fun r=>r = .t3 (.v (a5D a k m).1) (.v (a5D a k m).2.1) (.v (a5D a k m).2.2)):=by
 refine u1.jn func70 (by kernel_rfl) 40 rfl fun C hC hG => ?_
 refine .q 3 hG fun b3 => ?_
 refine .q 1 hG fun b4 => ?_
 refine .q 1 hG fun b6 => ?_
 refine .q 1 hG fun b7 => ?_
 refine .q 7 hG ?_
 refine .p (.o9 hG (a5X _ _ _) (.cons (.t a8) (.cons (.t a8) (.cons (.t a8) .nil))) ?_)
 refine .q 5 hG fun b9 => ?_
 refine .q 11 hG ⟨fun hc20 => ?_,fun hc20 => ?_⟩
 ·refine .q 2 hG ?_
  refine .p (.bS0 (α:=m0) a8 A0 a1n (.p (.P8 (default:(J0 32 UInt8)) A5 O1 .nil a8 ?_)))
  refine .q 6 hG ?_
  refine⟨_,.r3 a8 (.cell A0 a8 .z2) (.cell A5 a8 .z1) (.tmp a8),?_⟩
  unfold a5D
  rw [Q2 hc20]
 ·refine .q 5 hG ?_
  refine .bs a8 (by decide) fun b27 => .h (.same underlying86 underlying5 a8 .z (by simp) (.u0 hC .z (.as 28 a8 .z (.p (.o9 hG (a5X _ _ _) (.cons (.t a8) (.cons (.t a8) (.cons (.t a8) .nil))) ?_)))))
  refine .q 14 hG ⟨fun hc34 => ?_,fun hc34 => ?_⟩
  ·refine .q 2 hG ?_
   refine .p (.bS0 (α:=m0) a8 A0 a1n (.p (.P8 (default:(J0 32 UInt8)) A5 O1 .nil a8 ?_)))
   refine .q 6 hG ?_
   refine⟨_,.r3 a8 (.cell A0 a8 .z3) (.cell A5 a8 .z2) (.tmp a8),?_⟩
   unfold a5D
   rw [F8 (Decidable.not_not.1 hc20),Q2 (r:=H4 (H4 a k m).1 (H4 a k m).2.1 G2) hc34];rfl
  ·refine .q 2 hG ?_
   refine .E0 [j1,j1,j0,j0,j1,j1] (by kernel_rfl) 5 [[],[],[(38,0)],[(39,1)],[]] [2,3] a8 (by kernel_rfl) a8 (by kernel_rfl) (by decide) ?_
   refine⟨_,fun H=>j6.T1 A0 (.t a8) (u4.app .z5) a8,?_⟩
   refine⟨_,fun H=>j6.T1 A5 (.t a8) (u4.app .z1) a8,?_⟩
   refine .inl (.inl ?_)
   refine⟨_,fun H=>j6.assign (.i a8) a8,?_⟩
   refine⟨⟨([],j2 [c8,c8,_,_,c8,c8]),a8⟩,?_⟩
   refine A6.Q1 A0 (.t rfl) (.t rfl) .z3 ?_
   refine⟨⟨([],j2 [c8,c8,_,_,c8,c8]),a8⟩,?_⟩
   refine A6.Q1 A5 (.t rfl) (.t rfl) .z2 ?_
   refine⟨⟨([],j2 [c8,c8,_,_,c8,c8]),a8⟩,?_⟩
   show D6 _ _ _ _ _ [] ((8,_)::(39,_)::(38,_)::_) _
   refine .q 2 hG ?_
   refine⟨_,.r3 a8 (.cell A0 a8 .z3) (.cell A5 a8 .z2) (.tmp a8),?_⟩
   unfold a5D
   rw [F8 (Decidable.not_not.1 hc20),F8 (r:=H4 (H4 a k m).1 (H4 a k m).2.1 G2) (Decidable.not_not.1 hc34)];rfl
theorem b8D (a:D3) (root:u7) (n:Int):u1 gl prog 28 [.v a,.v root,.v n] (fun r=>r = .t3 (.v (a7I a root n).1) (.v (a7I a root n).2.1) (.v (a7I a root n).2.2)):=by
 refine u1.jn func28 (by kernel_rfl) 50 rfl fun C hC hG => ?_
 refine .q 3 hG fun b3 => ?_
 refine .q 1 hG fun b4 => ?_
 refine .q 1 hG fun b6 => ?_
 refine .q 1 hG fun b7 => ?_
 refine .q 22 hG ?_
 refine .cond (.t a8) (fun hc26 => ?_) (fun hc26 => ?_)
 ·refine .q 2 hG ?_
  refine .p (.bS0 (α:=m0) a8 A0 a1n (.p (.bS0 (α:=x8) a8 U8 b0f ?_)))
  refine .q 5 hG ?_
  refine⟨_,.r3 a8 (.cell A0 a8 .z1) (.cell U8 a8 .z) (.tmp a8),?_⟩
  unfold a7I
  rw [if_pos (b6y hc26)]
 ·refine .q 2 hG ?_
  have hr:=a7F (a58 hc26)
  refine .a1a [[j1,j1,j1,j1],[j1,j1,j1,j1],[j1,j1,j1,j0],[j1,j1,j1,j0]] [[j1,j1,j1,j1],[j1,j1,j1,j1],[j1,j1,j1,j1],[j1,j1,j1,j1],[j1,j1,j1,j1],[j1,j1,j1,j1],[j1,j1,j1,j1],[j1,j1,j1,j1],[j1,j1,j1,j0],[j1,j1,j1,j0],[],[],[],[j1,j1,j1,j0]] [] [] 3 (by kernel_rfl) 14 [[],[],[(31,1)],[],[(33,3)],[(30,0),(32,2),(34,4)],[(35,5)],[(29,6)],[(29,6)],[(29,6)],[],[(36,7)],[(9,10),(37,8)],[(38,9)]] [10,11,12] rfl (by kernel_rfl) rfl (by kernel_rfl) rfl (by decide) (by simp) (fun p hp=>by cases hp) (by kernel_rfl) rfl ?_
  refine⟨_,fun H=>j6.T1 A0 (.t a8) (u4.app .z3) a8,?_⟩
  refine⟨_,fun H=>j6.B0 u7.l1 b7x a8 (.t a8) a8,?_⟩
  refine⟨_,fun H=>j6.ldF (fun x=>x.Key) A5 (.t a8) (u4.app .z2) (fun _=>a8) a8,?_⟩
  refine⟨_,fun H=>j6.move (.t a8) a8,?_⟩
  refine⟨_,fun H=>j6.o9 hG (b4i _ (by omega) (by omega)) (.cons (.t a8) .nil) a8,?_⟩
  refine⟨_,fun H=>j6.o9 hG (b8C _ _ _) (.cons (.t a8) (.cons (.t a8) (.cons (.t a8) .nil))) a8,?_⟩
  refine⟨_,fun H=>j6.move (.t a8) a8,?_⟩
  refine⟨_,fun H=>j6.O7 (.t a8) a8,?_⟩
  refine⟨_,fun H=>j6.O8 (.t a8) a8,?_⟩
  refine⟨_,fun H=>j6.O9 (.t a8) a8,?_⟩
  refine .inl (.inl (.inl ?_))
  refine⟨_,fun H=>j6.assign (.t a8) a8,?_⟩
  refine⟨a8,?_⟩
  refine⟨⟨j2 [c8,c8,c8,c8],a8⟩,fun Ys3 => ?_⟩
  refine A6.alloc A5 fun b9 => ?_
  refine⟨[_],_,a8,?_⟩
  refine⟨⟨j2 [c8,c8,c8,c8],a8⟩,fun Ys3 => ?_⟩
  refine A6.Q1 A0 (.t rfl) (.t rfl) (.s (u4.app (u4.app .z3))) ?_
  refine⟨[_],_,a8,?_⟩
  refine⟨⟨j2 [c8,c8,c8,_],a8⟩,fun Ys3 => ?_⟩
  refine A6.Q1 A5 (.t rfl) (.t rfl) .z ?_
  refine⟨[_],_,a8,?_⟩
  refine⟨⟨j2 [c8,c8,c8,_],a8⟩,fun ws3 => ?_⟩
  refine⟨⟨j2 [c8,c8,c8,_],a8⟩,fun _ => ?_⟩
  show D6 _ _ _ _ _ [] ((10,_)::(9,_)::(38,_)::(37,_)::(36,_)::(29,_)::(35,_)::(34,_)::(33,_)::(32,_)::(31,_)::(30,_)::_) _
  refine .q 8 hG ⟨fun hc40 => ?_,fun hc40 => ?_⟩
  ·refine .q 2 hG ?_
   refine .p (.bS0 (α:=m0) a8 A0 a1n (.p (.bS0 (α:=x8) a8 U8 b0f (.mv a8 (.n (.Q1 A0 (.t a8) (.t a8) .z2 (.n (.Q1 U8 (.t a8) (.t a8) .z1 (.ag a8 ?_)))))))))
   refine .q 2 hG ?_
   refine⟨_,.r3 a8 (.cell A0 a8 .z2) (.cell U8 a8 .z1) (.tmp a8),?_⟩
   unfold a7I
   rw [if_neg (by rw [a58 hc26];decide),Q2 hc40]
  ·refine .q 2 hG ?_
   refine .E0 [j1,j0,j0,j1,j1] (by kernel_rfl) 9 [[],[],[(45,1)],[],[],[(46,2),(47,3),(48,4)],[(44,0)],[(49,5)],[]] [6,7] a8 (by kernel_rfl) a8 (by kernel_rfl) (by decide) ?_
   refine⟨_,fun H=>j6.T1 A0 (.t a8) (u4.app .z4) a8,?_⟩
   refine⟨_,fun H=>j6.B0 u7.l0 b7w a8 (.t a8) a8,?_⟩
   refine⟨_,fun H=>j6.ldF (fun x=>x.Number) R3 (.t a8) (u4.app .z3) (fun _=>a8) a8,?_⟩
   refine⟨_,fun H=>j6.move (.t a8) a8,?_⟩
   refine⟨_,fun H=>j6.T1 A5 (.t a8) (u4.app .z) a8,?_⟩
   refine⟨_,fun H=>j6.bS3 x8.l0 x8.l1 x8.l3 a8 U8 b0f (fun c0 c1 c3=>(⟨c0,c1,[],c3⟩:x8)) (fun _ _ _=>a8) a8 a8 a8 a8 (.t a8) (.t a8) (.t a8) a8,?_⟩
   refine .inl (.inl ?_)
   refine⟨_,fun H=>j6.assign (.i a8) a8,?_⟩
   refine⟨⟨([],j2 [c8,_,_,c8,c8]),a8⟩,?_⟩
   refine A6.Q1 A0 (.t rfl) (.t rfl) .z2 ?_
   refine⟨⟨([],j2 [c8,_,_,c8,c8]),a8⟩,?_⟩
   refine A6.Q1 U8 (.t rfl) (.t rfl) .z1 ?_
   refine⟨⟨([],j2 [c8,_,_,c8,c8]),a8⟩,?_⟩
   show D6 _ _ _ _ _ [] ((8,_)::(49,_)::(48,_)::(47,_)::(46,_)::(45,_)::(44,_)::_) _
   refine .q 2 hG ?_
   refine⟨_,.r3 a8 (.cell A0 a8 .z2) (.cell U8 a8 .z1) (.tmp a8),?_⟩
   unfold a7I
   rw [if_neg (by rw [a58 hc26];decide),F8 (Decidable.not_not.1 hc40)]
theorem a9W (t:B1):u1 gl prog 139 [.v t] (fun r=>r = .v (a0K t)):=by
 refine u1.jn func139 (by kernel_rfl) 18 rfl fun C hC hG => ?_
 refine .q 3 hG fun b1 => ?_
 refine .q 22 hG ?_
 refine .e1 a8 a8 ?_
 rfl
theorem a6b (a:D3) (d:Dis) (p:Pred) (hd:d.l8.length≤1000000):u1 gl prog 83 [.v a,.v d,.v p] (fun r=>r = .t3 (.v (T6 a d p).1) (.v (T6 a d p).2.1) (.v (T6 a d p).2.2)):=by
 refine u1.jn func83 (by kernel_rfl) 54 rfl fun C hC hG => ?_
 refine .q 3 hG fun b3 => ?_
 refine .q 1 hG fun b4 => ?_
 refine .q 1 hG fun b5 => ?_
 refine .q 1 hG fun b6 => ?_
 refine .q 1 hG fun b7 => ?_
 refine .q 4 hG ?_
 refine .A8 hC .z2 (.O5 5 a8 .z2 ?_)
 refine .q 2 hG ?_
 refine .k hG (a1f _) ?_
 refine .q 2 hG ?_
 refine .cond (.t a8) (fun hc13 => ?_) (fun hc13 => ?_)
 ·refine .q 2 hG ?_
  refine .p (.bS0 (α:=m0) a8 A0 a1n (.p (.bS0 (α:=p5) a8 T3 a9z ?_)))
  refine .q 5 hG ?_
  refine⟨_,.r3 a8 (.cell A0 a8 .z1) (.cell T3 a8 .z) (.tmp a8),?_⟩
  unfold T6
  rw [if_pos (by simpa using hc13)]
 ·refine .q 9 hG ⟨fun hc18 => ?_,fun hc18 => ?_⟩
  ·refine .q 2 hG ?_
   refine .p (.bS0 (α:=m0) a8 A0 a1n (.p (.bS0 (α:=p5) a8 T3 a9z ?_)))
   refine .q 5 hG ?_
   refine⟨_,.r3 a8 (.cell A0 a8 .z1) (.cell T3 a8 .z) (.tmp a8),?_⟩
   unfold T6
   rw [if_neg (by simpa using hc13),if_pos hc18]
  ·refine .q 10 hG ⟨fun hc24 => ?_,fun hc24 => ?_⟩
   ·refine .q 2 hG ?_
    refine .p (.bS0 (α:=m0) a8 A0 a1n (.p (.bS0 (α:=p5) a8 T3 a9z ?_)))
    refine .q 5 hG ?_
    refine⟨_,.r3 a8 (.cell A0 a8 .z1) (.cell T3 a8 .z) (.tmp a8),?_⟩
    unfold T6
    rw [if_neg (by simpa using hc13),if_neg hc18,if_pos (by omega)]
   ·refine .q 2 hG ?_
    refine .a1a [[j1,j1,j1,j1,j1],[j1,j1,j1,j1,j1],[j1,j1,j1,j1,j0],[j1,j1,j1,j1,j0]] [[j1,j1,j1,j1,j1],[j1,j1,j1,j1,j1],[j1,j1,j1,j1,j1],[j1,j1,j1,j1,j1],[j1,j1,j1,j1,j1],[j1,j1,j1,j1,j1],[j1,j1,j1,j1,j1],[j1,j1,j1,j1,j1],[j1,j1,j1,j1,j0],[j1,j1,j1,j1,j0],[],[],[],[j1,j1,j1,j1,j0]] [] [] 3 (by kernel_rfl) 14 [[],[],[(29,1)],[],[(31,3)],[(28,0),(30,2),(32,4)],[(33,5)],[(27,6)],[(27,6)],[(27,6)],[],[(34,7)],[(9,10),(35,8)],[(36,9)]] [10,11,12] rfl (by kernel_rfl) rfl (by kernel_rfl) rfl (by decide) (by simp) (fun p hp=>by cases hp) (by kernel_rfl) rfl ?_
    refine⟨_,fun H=>j6.T1 A0 (.t a8) (u4.app .z4) a8,?_⟩
    refine⟨_,fun H=>j6.B0 p5.l2 b0i a8 (.t a8) a8,?_⟩
    refine⟨_,fun H=>j6.ldF (fun x=>x.Tag) A5 (.t a8) (u4.app .z3) (fun _=>a8) a8,?_⟩
    refine⟨_,fun H=>j6.G9 Q5 (.t a8) a8,?_⟩
    refine⟨_,fun H=>j6.o9 hG (a8W _) (.cons (.t a8) .nil) a8,?_⟩
    refine⟨_,fun H=>j6.o9 hG (a5X _ _ _) (.cons (.t a8) (.cons (.t a8) (.cons (.t a8) .nil))) a8,?_⟩
    refine⟨_,fun H=>j6.move (.t a8) a8,?_⟩
    refine⟨_,fun H=>j6.O7 (.t a8) a8,?_⟩
    refine⟨_,fun H=>j6.O8 (.t a8) a8,?_⟩
    refine⟨_,fun H=>j6.O9 (.t a8) a8,?_⟩
    refine .inl (.inl (.inl ?_))
    refine⟨_,fun H=>j6.assign (.t a8) a8,?_⟩
    refine⟨a8,?_⟩
    refine⟨⟨j2 [c8,c8,c8,c8,c8],a8⟩,fun Ys7 => ?_⟩
    refine A6.alloc A5 fun b9 => ?_
    refine⟨[_],_,a8,?_⟩
    refine⟨⟨j2 [c8,c8,c8,c8,c8],a8⟩,fun Ys7 => ?_⟩
    refine A6.Q1 A0 (.t rfl) (.t rfl) (.s (u4.app (u4.app .z4))) ?_
    refine⟨[_],_,a8,?_⟩
    refine⟨⟨j2 [c8,c8,c8,c8,_],a8⟩,fun Ys7 => ?_⟩
    refine A6.Q1 A5 (.t rfl) (.t rfl) .z ?_
    refine⟨[_],_,a8,?_⟩
    refine⟨⟨j2 [c8,c8,c8,c8,_],a8⟩,fun ws7 => ?_⟩
    refine⟨⟨j2 [c8,c8,c8,c8,_],a8⟩,fun _ => ?_⟩
    show D6 _ _ _ _ _ [] ((10,_)::(9,_)::(36,_)::(35,_)::(34,_)::(27,_)::(33,_)::(32,_)::(31,_)::(30,_)::(29,_)::(28,_)::_) _
    refine .q 8 hG ⟨fun hc38 => ?_,fun hc38 => ?_⟩
    ·refine .q 2 hG ?_
     refine .p (.bS0 (α:=m0) a8 A0 a1n (.p (.bS0 (α:=p5) a8 T3 a9z (.mv a8 (.n (.Q1 A0 (.t a8) (.t a8) .z2 (.n (.Q1 T3 (.t a8) (.t a8) .z1 (.ag a8 ?_)))))))))
     refine .q 2 hG ?_
     refine⟨_,.r3 a8 (.cell A0 a8 .z2) (.cell T3 a8 .z1) (.tmp a8),?_⟩
     unfold T6
     rw [if_neg (by simpa using hc13),if_neg hc18,if_neg (by omega),Q2 hc38]
    ·refine .q 2 hG ?_
     refine .a1a [[j1,j1,j1,j1,j1,j1],[j1,j1,j1,j1,j1,j1],[j1,j1,j1,j1,j1,j1],[j1,j1,j1,j1,j1,j1],[j1,j1,j1,j1,j0,j1],[j1,j1,j1,j1,j0,j1]] [[],[j1,j1,j1,j1,j1,j1],[j1,j1,j1,j1,j1,j1],[],[j1,j1,j1,j1,j1,j1],[j1,j1,j1,j1,j1,j1],[],[j1,j1,j1,j1,j0,j1],[j1,j1,j1,j1,j1,j1],[],[j1,j1,j1,j1,j0,j1],[]] [] [] 5 (by kernel_rfl) 12 [[],[],[(43,1)],[(42,0),(44,2)],[],[(46,4)],[(45,3),(47,5)],[],[],[(50,8),(48,6)],[],[(51,10),(49,7)]] [0,3,6,9,11] rfl (by kernel_rfl) rfl (by kernel_rfl) rfl (by decide) (by simp) (fun p hp=>by cases hp) (by kernel_rfl) rfl (.inl ?_)
     refine⟨_,fun H=>j6.B0 p5.l1 a6j a8 (.t a8) a8,?_⟩
     refine⟨_,fun H=>j6.ldF (fun x=>x.l8) a8L (.t a8) (u4.app .z4) (fun _=>a8) a8,?_⟩
     refine .inl ?_
     refine⟨_,fun H=>j6.G9 Q5 (.t a8) a8,?_⟩
     refine⟨_,fun H=>j6.F1 (α:=j4) Q5 underlying83 (.cons (.t a8) .nil) a8 (by decide) a8,?_⟩
     refine .inl ?_
     refine⟨_,fun H=>j6.T1 A5 (.t a8) (u4.app .z) a8,?_⟩
     refine⟨_,fun H=>j6.B0 p5.l1 a6j a8 (.t a8) a8,?_⟩
     refine .inl ?_
     refine⟨_,fun H=>j6.B0 p5.l2 b0i a8 (.t a8) a8,?_⟩
     refine .inl ?_
     refine⟨a8,?_⟩
     refine⟨⟨j2 [c8,c8,c8,c8,c8,c8],a8⟩,fun Ys10 => ?_⟩
     refine A6.buildSlice (α:=j4) Q5 underlying83 .nil rfl (by decide) fun b42 => ?_
     refine⟨[_],_,a8,?_⟩
     refine⟨⟨j2 [c8,c8,c8,c8,c8,c8],a8⟩,fun Ys10 => ?_⟩
     refine A6.append b8g (.inl ⟨_,underlying83⟩) rfl .z (.v (.t rfl)) (by simp<;>omega) (by simp<;>omega) (fun w45 => ?_) rfl
     refine⟨[_],_,a8,?_⟩
     refine⟨⟨j2 [c8,c8,c8,c8,c8,c8],a8⟩,fun Ys10 => ?_⟩
     refine A6.append b8g (.inl ⟨_,underlying83⟩) rfl .z (.v (.c rfl)) (by simp<;>omega) (by simp<;>omega) (fun w48 => ?_) rfl
     refine⟨[_],_,a8,?_⟩
     refine⟨⟨j2 [c8,c8,c8,c8,c8,c8],a8⟩,fun Ys10 => ?_⟩
     refine A6.u0 hC .z (A6.as 48 rfl .z (A6.stF (fun y x => { x with l8:=y }) a8L (.t rfl) (.t rfl) (.s (u4.app (u4.app .z4))) (fun _ _=>rfl) ?_))
     refine⟨[_],_,a8,?_⟩
     refine⟨⟨j2 [c8,c8,c8,c8,_,c8],a8⟩,fun Ys10 => ?_⟩
     refine A6.stF (fun y x => { x with Tag:=y }) A5 (.t rfl) (.t rfl) (.s (u4.app (u4.app .z4))) (fun _ _=>rfl) ?_
     refine⟨[_],_,a8,?_⟩
     refine⟨⟨j2 [c8,c8,c8,c8,_,c8],a8⟩,fun ws10 => ?_⟩
     refine⟨⟨j2 [c8,c8,c8,c8,_,c8],a8⟩,fun _ => ?_⟩
     show D6 _ _ _ _ _ [] ((51,_)::(50,_)::(49,_)::(48,_)::(47,_)::(46,_)::(45,_)::(44,_)::(43,_)::(42,_)::_) _
     refine .q 2 hG ?_
     refine .E0 [j1,j1,j0,j0,j1,j1,j1] (by kernel_rfl) 5 [[],[],[(52,0)],[(53,1)],[]] [2,3] a8 (by kernel_rfl) a8 (by kernel_rfl) (by decide) ?_
     refine⟨_,fun H=>j6.T1 A0 (.t a8) (u4.app .z6) a8,?_⟩
     refine⟨_,fun H=>j6.T1 T3 (.t a8) (u4.app .z5) a8,?_⟩
     refine .inl (.inl ?_)
     refine⟨_,fun H=>j6.assign (.i a8) a8,?_⟩
     refine⟨⟨([],j2 [c8,c8,_,_,c8,c8,c8]),a8⟩,?_⟩
     refine A6.Q1 A0 (.t rfl) (.t rfl) .z3 ?_
     refine⟨⟨([],j2 [c8,c8,_,_,c8,c8,c8]),a8⟩,?_⟩
     refine A6.Q1 T3 (.t rfl) (.t rfl) .z2 ?_
     refine⟨⟨([],j2 [c8,c8,_,_,c8,c8,c8]),a8⟩,?_⟩
     show D6 _ _ _ _ _ [] ((8,_)::(53,_)::(52,_)::_) _
     refine .q 2 hG ?_
     refine⟨_,.r3 a8 (.cell A0 a8 .z3) (.cell T3 a8 .z2) (.tmp a8),?_⟩
     unfold T6
     rw [if_neg (by simpa using hc13),if_neg hc18,if_neg (by omega),F8 (Decidable.not_not.1 hc38)];rfl
theorem c2a (a:D3) (d:Dis) (leaf:Tag) (r:Rq):u1 gl prog 74 [.v a,.v d,.v leaf,.v r] (fun x=>x = .t3 (.v (a2L a d leaf r).1) (.v (a2L a d leaf r).2.1) (.v (a2L a d leaf r).2.2)):=by
 refine u1.jn func74 (by kernel_rfl) 41 rfl fun C hC hG => ?_
 refine .q 3 hG fun b4 => ?_
 refine .q 1 hG fun b5 => ?_
 refine .q 1 hG fun b6 => ?_
 refine .q 1 hG fun b7 => ?_
 refine .q 1 hG fun b8 => ?_
 refine .q 1 hG fun b9 => ?_
 refine .q 6 hG ?_
 refine .k hG (b5B _) ?_
 refine .q 2 hG ?_
 refine .cond (.t a8) (fun hc15 => ?_) (fun hc15 => ?_)
 ·refine .q 2 hG ?_
  refine .p (.bS0 (α:=m0) a8 A0 a1n (.p (.bS0 (α:=p8) a8 Z1 b6b ?_)))
  refine .q 5 hG ?_
  refine⟨_,.r3 a8 (.cell A0 a8 .z1) (.cell Z1 a8 .z) (.tmp a8),?_⟩
  unfold a2L
  rw [if_pos (by simpa using hc15)]
 ·refine .q 2 hG ?_
  refine .a1a [[j1,j1,j1,j1,j1,j1],[j1,j1,j1,j1,j1,j1],[j1,j1,j1,j1,j1,j0],[j1,j1,j1,j1,j1,j0]] [[j1,j1,j1,j1,j1,j1],[j1,j1,j1,j1,j1,j1],[j1,j1,j1,j1,j1,j1],[j1,j1,j1,j1,j1,j1],[j1,j1,j1,j1,j1,j1],[j1,j1,j1,j1,j1,j1],[j1,j1,j1,j1,j1,j1],[j1,j1,j1,j1,j1,j1],[j1,j1,j1,j1,j1,j1],[j1,j1,j1,j1,j1,j0],[j1,j1,j1,j1,j1,j0],[],[],[],[j1,j1,j1,j1,j1,j0]] [] [] 3 (by kernel_rfl) 15 [[],[],[(20,1)],[],[],[(22,3),(23,4)],[(19,0),(21,2),(24,5)],[(25,6)],[(18,7)],[(18,7)],[(18,7)],[],[(26,8)],[(11,11),(27,9)],[(28,10)]] [11,12,13] rfl (by kernel_rfl) rfl (by kernel_rfl) rfl (by decide) (by simp) (fun p hp=>by cases hp) (by kernel_rfl) rfl ?_
  refine⟨_,fun H=>j6.T1 A0 (.t a8) (u4.app .z5) a8,?_⟩
  refine⟨_,fun H=>j6.B0 p5.l2 b0i a8 (.t a8) a8,?_⟩
  refine⟨_,fun H=>j6.ldF (fun x=>x.Tag) A5 (.t a8) (u4.app .z4) (fun _=>a8) a8,?_⟩
  refine⟨_,fun H=>j6.T1 A5 (.t a8) (u4.app .z3) a8,?_⟩
  refine⟨_,fun H=>j6.T1 a8K (.t a8) (u4.app .z2) a8,?_⟩
  refine⟨_,fun H=>j6.o9 hG (b4l _ _ (by simpa using ‹(!S1 r)=false›)) (.cons (.t a8) (.cons (.t a8) .nil)) a8,?_⟩
  refine⟨_,fun H=>j6.o9 hG (a5X _ _ _) (.cons (.t a8) (.cons (.t a8) (.cons (.t a8) .nil))) a8,?_⟩
  refine⟨_,fun H=>j6.move (.t a8) a8,?_⟩
  refine⟨_,fun H=>j6.O7 (.t a8) a8,?_⟩
  refine⟨_,fun H=>j6.O8 (.t a8) a8,?_⟩
  refine⟨_,fun H=>j6.O9 (.t a8) a8,?_⟩
  refine .inl (.inl (.inl ?_))
  refine⟨_,fun H=>j6.assign (.t a8) a8,?_⟩
  refine⟨a8,?_⟩
  refine⟨⟨j2 [c8,c8,c8,c8,c8,c8],a8⟩,fun Ys3 => ?_⟩
  refine A6.alloc A5 fun b11 => ?_
  refine⟨[_],_,a8,?_⟩
  refine⟨⟨j2 [c8,c8,c8,c8,c8,c8],a8⟩,fun Ys3 => ?_⟩
  refine A6.Q1 A0 (.t rfl) (.t rfl) (.s (u4.app (u4.app .z5))) ?_
  refine⟨[_],_,a8,?_⟩
  refine⟨⟨j2 [c8,c8,c8,c8,c8,_],a8⟩,fun Ys3 => ?_⟩
  refine A6.Q1 A5 (.t rfl) (.t rfl) .z ?_
  refine⟨[_],_,a8,?_⟩
  refine⟨⟨j2 [c8,c8,c8,c8,c8,_],a8⟩,fun ws3 => ?_⟩
  refine⟨⟨j2 [c8,c8,c8,c8,c8,_],a8⟩,fun _ => ?_⟩
  show D6 _ _ _ _ _ [] ((12,_)::(11,_)::(28,_)::(27,_)::(26,_)::(18,_)::(25,_)::(24,_)::(23,_)::(22,_)::(21,_)::(20,_)::(19,_)::_) _
  refine .q 8 hG ⟨fun hc30 => ?_,fun hc30 => ?_⟩
  ·refine .q 2 hG ?_
   refine .p (.bS0 (α:=m0) a8 A0 a1n (.p (.bS0 (α:=p8) a8 Z1 b6b (.mv a8 (.n (.Q1 A0 (.t a8) (.t a8) .z2 (.n (.Q1 Z1 (.t a8) (.t a8) .z1 (.ag a8 ?_)))))))))
   refine .q 2 hG ?_
   refine⟨_,.r3 a8 (.cell A0 a8 .z2) (.cell Z1 a8 .z1) (.tmp a8),?_⟩
   unfold a2L
   rw [if_neg (by simpa using hc15),Q2 hc30]
  ·refine .q 2 hG ?_
   refine .E0 [j1,j0,j0,j1,j1,j1,j1] (by kernel_rfl) 10 [[],[],[(35,1)],[],[(37,3)],[],[(36,2),(38,4),(39,5)],[(34,0)],[(40,6)],[]] [7,8] a8 (by kernel_rfl) a8 (by kernel_rfl) (by decide) ?_
   refine⟨_,fun H=>j6.T1 A0 (.t a8) (u4.app .z6) a8,?_⟩
   refine⟨_,fun H=>j6.B0 p5.l0 b4N a8 (.t a8) a8,?_⟩
   refine⟨_,fun H=>j6.ldF (fun x=>x.j9) a3E (.t a8) (u4.app .z5) (fun _=>a8) a8,?_⟩
   refine⟨_,fun H=>j6.B0 p5.l1 a6j a8 (.t a8) a8,?_⟩
   refine⟨_,fun H=>j6.ldF (fun x=>x.l8) a8L (.t a8) (u4.app .z5) (fun _=>a8) a8,?_⟩
   refine⟨_,fun H=>j6.T1 A5 (.t a8) (u4.app .z) a8,?_⟩
   refine⟨_,fun H=>j6.bS3 p8.l0 p8.l1 p8.l2 a8 Z1 b6b (fun c0 c1 c2=>(⟨c0,c1,c2⟩:p8)) (fun _ _ _=>a8) a8 a8 a8 a8 (.t a8) (.t a8) (.t a8) a8,?_⟩
   refine .inl (.inl ?_)
   refine⟨_,fun H=>j6.assign (.i a8) a8,?_⟩
   refine⟨⟨([],j2 [c8,_,_,c8,c8,c8,c8]),a8⟩,?_⟩
   refine A6.Q1 A0 (.t rfl) (.t rfl) .z2 ?_
   refine⟨⟨([],j2 [c8,_,_,c8,c8,c8,c8]),a8⟩,?_⟩
   refine A6.Q1 Z1 (.t rfl) (.t rfl) .z1 ?_
   refine⟨⟨([],j2 [c8,_,_,c8,c8,c8,c8]),a8⟩,?_⟩
   show D6 _ _ _ _ _ [] ((10,_)::(40,_)::(39,_)::(38,_)::(37,_)::(36,_)::(35,_)::(34,_)::_) _
   refine .q 2 hG ?_
   refine⟨_,.r3 a8 (.cell A0 a8 .z2) (.cell Z1 a8 .z1) (.tmp a8),?_⟩
   unfold a2L
   rw [if_neg (by simpa using hc15),F8 (Decidable.not_not.1 hc30)]
theorem b4q {p:Pass} {c:Cav} {b:Bool} (h:(decide ((64:Int)≤(p.j7.length:Int))||(c.K5&&decide (8≤a1g p.j7)))=b):a6A p c=b:=by
 rw [←h];unfold a6A;congr 1;exact decide_eq_decide.2 (by omega)
theorem c1l (a:D3) (p:Pass) (c:Cav) (hp:p.j7.length≤1000000):u1 gl prog 138 [.v a,.v p,.v c] (fun r=>r = .t3 (.v (a4n a p c).1) (.v (a4n a p c).2.1) (.v (a4n a p c).2.2)):=by
 refine u1.jn func138 (by kernel_rfl) 59 rfl fun C hC hG => ?_
 refine .q 3 hG fun b3 => ?_
 refine .q 1 hG fun b4 => ?_
 refine .q 1 hG fun b5 => ?_
 refine .q 1 hG fun b6 => ?_
 refine .q 1 hG fun b7 => ?_
 refine .q 4 hG ?_
 refine .A8 hC .z2 (.O5 5 a8 .z2 ?_)
 refine .q 2 hG ?_
 refine .k hG (a4Q _) ?_
 refine .q 2 hG ?_
 refine .cond (.t a8) (fun hc13 => ?_) (fun hc13 => ?_)
 ·refine .q 2 hG ?_
  refine .p (.bS0 (α:=m0) a8 A0 a1n (.p (.bS0 (α:=x8) a8 U8 b0f ?_)))
  refine .q 5 hG ?_
  refine⟨_,.r3 a8 (.cell A0 a8 .z1) (.cell U8 a8 .z) (.tmp a8),?_⟩
  unfold a4n
  rw [if_pos (by simpa using hc13)]
 ·refine .q 11 hG ?_
  refine .goU 20 a8 (.t a8) (fun hg23 => .move (.q a8 hg23) a8) (.gn 23 a8 a8 (fun hc24 hg24 => .B0 x8.l2 b0e a8 (.t a8) a8) (.gn 23 a8 a8 (fun hc25 hg25 => .ldF (fun x=>x.j7) b1T (.ou a8 (Bool.and_eq_true_iff.2 ⟨hc25,beq_iff_eq.2 hg25⟩)) .z3 (fun _=>a8) a8) (.gn 23 a8 a8 (fun hc26 hg26 => .o9 hG (a9T _ hp) (.cons (.ou a8 (Bool.and_eq_true_iff.2 ⟨hc26,beq_iff_eq.2 hg26⟩)) .nil) a8) (.gn 23 a8 a8 (fun hc27 hg27 => .geq (.ou a8 (Bool.and_eq_true_iff.2 ⟨hc27,beq_iff_eq.2 hg27⟩)) (.i a8) a8) (.go 20 a8 (.t a8) (fun hg28 => .T8 (.ou a8 (beq_iff_eq.2 hg28)) (fun hp=>(.ou a8 (Bool.and_eq_true_iff.2 ⟨(beq_iff_eq.2 hg28),beq_iff_eq.2 hp⟩))) a8) ?_)))))
  refine .q 2 hG ?_
  refine .cond (.t a8) (fun hc29 => ?_) (fun hc29 => ?_)
  ·refine .q 2 hG ?_
   refine .p (.bS0 (α:=m0) a8 A0 a1n (.p (.bS0 (α:=x8) a8 U8 b0f ?_)))
   refine .q 5 hG ?_
   refine⟨_,.r3 a8 (.cell A0 a8 .z1) (.cell U8 a8 .z) (.tmp a8),?_⟩
   unfold a4n
   rw [if_neg (by simpa using hc13),if_pos (b4q hc29)]
  ·refine .q 2 hG ?_
   refine .a1a [[j1,j1,j1,j1,j1],[j1,j1,j1,j1,j1],[j1,j1,j1,j1,j0],[j1,j1,j1,j1,j0]] [[j1,j1,j1,j1,j1],[j1,j1,j1,j1,j1],[j1,j1,j1,j1,j1],[j1,j1,j1,j1,j1],[j1,j1,j1,j1,j1],[j1,j1,j1,j1,j1],[j1,j1,j1,j1,j1],[j1,j1,j1,j1,j1],[j1,j1,j1,j1,j0],[j1,j1,j1,j1,j0],[],[],[],[j1,j1,j1,j1,j0]] [] [] 3 (by kernel_rfl) 14 [[],[],[(34,1)],[],[(36,3)],[(33,0),(35,2),(37,4)],[(38,5)],[(32,6)],[(32,6)],[(32,6)],[],[(39,7)],[(9,10),(40,8)],[(41,9)]] [10,11,12] rfl (by kernel_rfl) rfl (by kernel_rfl) rfl (by decide) (by simp) (fun p hp=>by cases hp) (by kernel_rfl) rfl ?_
   refine⟨_,fun H=>j6.T1 A0 (.t a8) (u4.app .z4) a8,?_⟩
   refine⟨_,fun H=>j6.B0 x8.l3 a6S a8 (.t a8) a8,?_⟩
   refine⟨_,fun H=>j6.ldF (fun x=>x.Tag) A5 (.t a8) (u4.app .z3) (fun _=>a8) a8,?_⟩
   refine⟨_,fun H=>j6.G9 a0n (.t a8) a8,?_⟩
   refine⟨_,fun H=>j6.o9 hG (b6C _) (.cons (.t a8) .nil) a8,?_⟩
   refine⟨_,fun H=>j6.o9 hG (b8C _ _ _) (.cons (.t a8) (.cons (.t a8) (.cons (.t a8) .nil))) a8,?_⟩
   refine⟨_,fun H=>j6.move (.t a8) a8,?_⟩
   refine⟨_,fun H=>j6.O7 (.t a8) a8,?_⟩
   refine⟨_,fun H=>j6.O8 (.t a8) a8,?_⟩
   refine⟨_,fun H=>j6.O9 (.t a8) a8,?_⟩
   refine .inl (.inl (.inl ?_))
   refine⟨_,fun H=>j6.assign (.t a8) a8,?_⟩
   refine⟨a8,?_⟩
   refine⟨⟨j2 [c8,c8,c8,c8,c8],a8⟩,fun Ys5 => ?_⟩
   refine A6.alloc A5 fun b9 => ?_
   refine⟨[_],_,a8,?_⟩
   refine⟨⟨j2 [c8,c8,c8,c8,c8],a8⟩,fun Ys5 => ?_⟩
   refine A6.Q1 A0 (.t rfl) (.t rfl) (.s (u4.app (u4.app .z4))) ?_
   refine⟨[_],_,a8,?_⟩
   refine⟨⟨j2 [c8,c8,c8,c8,_],a8⟩,fun Ys5 => ?_⟩
   refine A6.Q1 A5 (.t rfl) (.t rfl) .z ?_
   refine⟨[_],_,a8,?_⟩
   refine⟨⟨j2 [c8,c8,c8,c8,_],a8⟩,fun ws5 => ?_⟩
   refine⟨⟨j2 [c8,c8,c8,c8,_],a8⟩,fun _ => ?_⟩
   show D6 _ _ _ _ _ [] ((10,_)::(9,_)::(41,_)::(40,_)::(39,_)::(32,_)::(38,_)::(37,_)::(36,_)::(35,_)::(34,_)::(33,_)::_) _
   refine .q 8 hG ⟨fun hc43 => ?_,fun hc43 => ?_⟩
   ·refine .q 2 hG ?_
    refine .p (.bS0 (α:=m0) a8 A0 a1n (.p (.bS0 (α:=x8) a8 U8 b0f (.mv a8 (.n (.Q1 A0 (.t a8) (.t a8) .z2 (.n (.Q1 U8 (.t a8) (.t a8) .z1 (.ag a8 ?_)))))))))
    refine .q 2 hG ?_
    refine⟨_,.r3 a8 (.cell A0 a8 .z2) (.cell U8 a8 .z1) (.tmp a8),?_⟩
    unfold a4n
    rw [if_neg (by simpa using hc13),if_neg (by rw [b4q hc29];decide),Q2 hc43]
   ·refine .q 2 hG ?_
    refine .a1a [[j1,j1,j1,j1,j1,j1],[j1,j1,j1,j1,j1,j1],[j1,j1,j1,j1,j1,j1],[j1,j1,j1,j1,j1,j1],[j1,j1,j1,j1,j0,j1],[j1,j1,j1,j1,j0,j1]] [[],[j1,j1,j1,j1,j1,j1],[j1,j1,j1,j1,j1,j1],[],[j1,j1,j1,j1,j1,j1],[j1,j1,j1,j1,j1,j1],[],[j1,j1,j1,j1,j0,j1],[j1,j1,j1,j1,j1,j1],[],[j1,j1,j1,j1,j0,j1],[]] [] [] 5 (by kernel_rfl) 12 [[],[],[(48,1)],[(47,0),(49,2)],[],[(51,4)],[(50,3),(52,5)],[],[],[(55,8),(53,6)],[],[(56,10),(54,7)]] [0,3,6,9,11] rfl (by kernel_rfl) rfl (by kernel_rfl) rfl (by decide) (by simp) (fun p hp=>by cases hp) (by kernel_rfl) rfl (.inl ?_)
    refine⟨_,fun H=>j6.B0 x8.l2 b0e a8 (.t a8) a8,?_⟩
    refine⟨_,fun H=>j6.ldF (fun x=>x.j7) b1T (.t a8) (u4.app .z4) (fun _=>a8) a8,?_⟩
    refine .inl ?_
    refine⟨_,fun H=>j6.G9 a0n (.t a8) a8,?_⟩
    refine⟨_,fun H=>j6.F1 (α:=m9) a0n underlying24 (.cons (.t a8) .nil) a8 (by decide) a8,?_⟩
    refine .inl ?_
    refine⟨_,fun H=>j6.T1 A5 (.t a8) (u4.app .z) a8,?_⟩
    refine⟨_,fun H=>j6.B0 x8.l2 b0e a8 (.t a8) a8,?_⟩
    refine .inl ?_
    refine⟨_,fun H=>j6.B0 x8.l3 a6S a8 (.t a8) a8,?_⟩
    refine .inl ?_
    refine⟨a8,?_⟩
    refine⟨⟨j2 [c8,c8,c8,c8,c8,c8],a8⟩,fun Ys8 => ?_⟩
    refine A6.buildSlice (α:=m9) a0n underlying24 .nil rfl (by decide) fun b47 => ?_
    refine⟨[_],_,a8,?_⟩
    refine⟨⟨j2 [c8,c8,c8,c8,c8,c8],a8⟩,fun Ys8 => ?_⟩
    refine A6.append b9Z (.inl ⟨_,underlying24⟩) rfl .z (.v (.t rfl)) (by simp<;>omega) (by simp<;>omega) (fun w50 => ?_) rfl
    refine⟨[_],_,a8,?_⟩
    refine⟨⟨j2 [c8,c8,c8,c8,c8,c8],a8⟩,fun Ys8 => ?_⟩
    refine A6.append b9Z (.inl ⟨_,underlying24⟩) rfl .z (.v (.c rfl)) (by simp<;>omega) (by simp<;>omega) (fun w53 => ?_) rfl
    refine⟨[_],_,a8,?_⟩
    refine⟨⟨j2 [c8,c8,c8,c8,c8,c8],a8⟩,fun Ys8 => ?_⟩
    refine A6.u0 hC .z (A6.as 53 rfl .z (A6.stF (fun y x => { x with j7:=y }) b1T (.t rfl) (.t rfl) (.s (u4.app (u4.app .z4))) (fun _ _=>rfl) ?_))
    refine⟨[_],_,a8,?_⟩
    refine⟨⟨j2 [c8,c8,c8,c8,_,c8],a8⟩,fun Ys8 => ?_⟩
    refine A6.stF (fun y x => { x with Tag:=y }) A5 (.t rfl) (.t rfl) (.s (u4.app (u4.app .z4))) (fun _ _=>rfl) ?_
    refine⟨[_],_,a8,?_⟩
    refine⟨⟨j2 [c8,c8,c8,c8,_,c8],a8⟩,fun ws8 => ?_⟩
    refine⟨⟨j2 [c8,c8,c8,c8,_,c8],a8⟩,fun _ => ?_⟩
    show D6 _ _ _ _ _ [] ((56,_)::(55,_)::(54,_)::(53,_)::(52,_)::(51,_)::(50,_)::(49,_)::(48,_)::(47,_)::_) _
    refine .q 2 hG ?_
    refine .E0 [j1,j1,j0,j0,j1,j1,j1] (by kernel_rfl) 5 [[],[],[(57,0)],[(58,1)],[]] [2,3] a8 (by kernel_rfl) a8 (by kernel_rfl) (by decide) ?_
    refine⟨_,fun H=>j6.T1 A0 (.t a8) (u4.app .z6) a8,?_⟩
    refine⟨_,fun H=>j6.T1 U8 (.t a8) (u4.app .z5) a8,?_⟩
    refine .inl (.inl ?_)
    refine⟨_,fun H=>j6.assign (.i a8) a8,?_⟩
    refine⟨⟨([],j2 [c8,c8,_,_,c8,c8,c8]),a8⟩,?_⟩
    refine A6.Q1 A0 (.t rfl) (.t rfl) .z3 ?_
    refine⟨⟨([],j2 [c8,c8,_,_,c8,c8,c8]),a8⟩,?_⟩
    refine A6.Q1 U8 (.t rfl) (.t rfl) .z2 ?_
    refine⟨⟨([],j2 [c8,c8,_,_,c8,c8,c8]),a8⟩,?_⟩
    show D6 _ _ _ _ _ [] ((8,_)::(58,_)::(57,_)::_) _
    refine .q 2 hG ?_
    refine⟨_,.r3 a8 (.cell A0 a8 .z3) (.cell U8 a8 .z2) (.tmp a8),?_⟩
    unfold a4n
    rw [if_neg (by simpa using hc13),if_neg (by rw [b4q hc29];decide),F8 (Decidable.not_not.1 hc43)];rfl
theorem b8E (a:D3) (p:Pass) (c:Cav):(a4n a p c).2.1.j7.length≤p.j7.length+1:=by
 unfold a4n a00
 split
 ·exact Nat.zero_le _
 ·split
  ·exact Nat.zero_le _
  ·split
   ·simp
   ·exact Nat.zero_le _
theorem a7K {a:D3} {p:Pass} {l:List Pred} {i:Nat} (h:i < l.length):a1k a p (l.drop i)=a00 (a4n a p ⟨false,l[i],0,[],[]⟩) fun b q=>a1k b q (l.drop (i+1)):=by
 rw [List.drop_eq_getElem_cons h];rfl
theorem b0T {a:D3} {k:Tag} {m:List UInt8} {x:o5} (h:x∈(H4 a k m).1.y2):x∈a.y2:=by
 unfold H4 at h
 split at h
 ·cases h
 ·split at h
  ·exact h
  ·split at h
   ·cases h
   ·exact h
theorem b2w (a:D3) (p:Pass) (l:List Pred) (hp:p.j7.length+l.length≤1000000):u1 gl prog 79 [.v a,.v p,.v l] (fun r=>r = .t3 (.v (a1k a p l).1) (.v (a1k a p l).2.1) (.v (a1k a p l).2.2)):=by
 refine u1.jn func79 (by kernel_rfl) 40 rfl fun C hC hG => ?_
 refine .q 3 hG fun b3 => ?_
 refine .q 1 hG fun b4 => ?_
 refine .q 1 hG fun b6 => ?_
 refine .q 1 hG fun b7 => ?_
 refine .q 3 hG ?_
 refine .S0 2 a8 fun hl2 => ?_
 refine .q 9 hG ?_
 refine .E3 (α:=Nat×D3×Pass×Int) [(2,_),(3,_),(4,_),(6,_),(7,_)] (fun x R=>(9,.v x.2.2.2)::(10,.v (x.1:Int))::R) (fun x => [(true,.ob (ptr b7 0) (default:Pass)),(true,.ob (ptr b6 0) (default:D3)),(true,.ob (ptr b4 0) x.2.2.1),(true,.ob (ptr b3 0) x.2.1)]) (fun x=>x.1≤l.length∧(x.2.2.2=0→a1k a p l=a1k x.2.1 x.2.2.1 (l.drop x.1))∧(x.2.2.2≠0→a1k a p l=(default,default,x.2.2.2))∧x.2.2.1.j7.length≤p.j7.length+x.1) (fun x=>l.length - x.1) ((0,a,p,0)) (.c2 a8 a8 (.c2 a8 a8 (.cons a8 (.nil _)))) ?_ (.c2 a8 a8 (.c2 a8 a8 (.c2 a8 a8 (.cons a8 (.nil _))))) (a8) fun x hF => ?_
 ·exact⟨Nat.zero_le _,fun _=>a8,fun h=>absurd a8 h,Nat.le_refl _⟩
 obtain⟨i,b,q,e⟩:=x
 obtain⟨h1,h2,h3,h4⟩:=hF
 dsimp only at h1 h2 h3 h4 ⊢
 refine .q 12 hG ?_
 refine .cond (.t a8) (fun hc18 => ?_) (fun hc18 => ?_)
 ·refine .q 3 hG ?_
  have hlt:i < l.length∧e=0:=by simpa using hc18
  refine .a1a [[j1,j1,j1,j1],[j1,j1,j1,j0],[j1,j1,j0,j0]] [[j1,j1,j1,j1],[j1,j1,j1,j1],[j1,j1,j1,j1],[j1,j1,j1,j1],[j1,j1,j1,j1],[j1,j1,j1,j1],[j1,j1,j1,j1],[j1,j1,j1,j1],[j1,j1,j1,j1],[j1,j1,j1,j1],[j1,j1,j1,j0],[j1,j1,j0,j0],[],[],[j1,j1,j0,j0]] [] [] 2 (by kernel_rfl) 15 [[],[],[],[],[(24,2),(25,3)],[(26,4)],[(27,5)],[(22,0),(23,1),(28,6)],[(29,7)],[(21,8)],[(21,8)],[(21,8)],[(30,9)],[(31,10)],[(32,11)]] [12,13] rfl (by kernel_rfl) rfl (by kernel_rfl) rfl (by decide) (by simp) (fun p hp=>by cases hp) (by kernel_rfl) rfl ?_
  refine⟨_,fun H=>j6.T1 A0 (.t a8) (u4.app .z3) a8,?_⟩
  refine⟨_,fun H=>j6.T1 U8 (.t a8) (u4.app .z2) a8,?_⟩
  refine⟨_,fun H=>j6.move (.t a8) a8,?_⟩
  refine⟨_,fun H=>j6.move (.t a8) a8,?_⟩
  refine⟨_,fun H=>j6.idx Q5 underlying83 (.t a8) (.t a8) (by omega) (by omega) a8,?_⟩
  refine⟨_,fun H=>j6.G9 Q5 (.t a8) a8,?_⟩
  refine⟨_,fun H=>j6.bS1 m9.l1 a8 a0n b9E (fun c1=>(⟨false,c1,0,[],[]⟩:m9)) (fun _=>a8) a8 a8 (.t a8) a8,?_⟩
  refine⟨_,fun H=>j6.o9 hG (c1l _ _ _ (by omega)) (.cons (.t a8) (.cons (.t a8) (.cons (.t a8) .nil))) a8,?_⟩
  refine⟨_,fun H=>j6.move (.t a8) a8,?_⟩
  refine⟨_,fun H=>j6.O7 (.t a8) a8,?_⟩
  refine⟨_,fun H=>j6.O8 (.t a8) a8,?_⟩
  refine⟨_,fun H=>j6.O9 (.t a8) a8,?_⟩
  refine .inl (.inl ?_)
  refine⟨_,fun H=>j6.assign (.t a8) a8,?_⟩
  refine⟨a8,?_⟩
  refine⟨⟨j2 [c8,c8,c8,c8],a8⟩,fun Ys5 => ?_⟩
  refine A6.Q1 A0 (.t rfl) (.t rfl) (u4.app (u4.app .z3)) ?_
  refine⟨[],_,a8,?_⟩
  refine⟨⟨j2 [c8,c8,c8,_],a8⟩,fun Ys5 => ?_⟩
  refine A6.Q1 U8 (.t rfl) (.t rfl) (u4.app (u4.app .z2)) ?_
  refine⟨[],_,a8,?_⟩
  refine⟨⟨j2 [c8,c8,_,_],a8⟩,fun ws5 => ?_⟩
  refine⟨⟨j2 [c8,c8,_,_],a8⟩,fun _ => ?_⟩
  show D6 _ _ _ _ _ [] ((9,_)::(32,_)::(31,_)::(30,_)::(21,_)::(29,_)::(28,_)::(27,_)::(26,_)::(25,_)::(24,_)::(23,_)::(22,_)::_) _
  refine .q 3 hG ?_
  refine .ad (by omega) (by omega) ?_
  refine .q 2 hG ?_
  refine⟨(i+1,(a4n b q ⟨false,l[i],0,[],[]⟩).1,(a4n b q ⟨false,l[i],0,[],[]⟩).2.1,(a4n b q ⟨false,l[i],0,[],[]⟩).2.2),.c2 rfl rfl (.c2 rfl rfl (.c2 rfl rfl (.cons rfl (.nil _)))),rfl,?_,by dsimp only;omega⟩
  exact⟨by dsimp only;omega,fun h=>by dsimp only at h ⊢;rw [h2 hlt.2,a7K hlt.1,F8 h],fun h=>by dsimp only at h ⊢;rw [h2 hlt.2,a7K hlt.1,Q2 h],by have:=b8E b q ⟨false,l[i],0,[],[]⟩;dsimp only;omega⟩
 ·refine .q 8 hG ⟨fun hc34 => ?_,fun hc34 => ?_⟩
  ·refine .q 2 hG ?_
   refine .p (.bS0 (α:=m0) a8 A0 a1n (.p (.bS0 (α:=x8) a8 U8 b0f ?_)))
   refine .q 6 hG ?_
   refine⟨_,.r3 a8 (.cell A0 a8 .z1) (.cell U8 a8 .z) (.tmp a8),?_⟩
   rw [h3 hc34]
  ·refine .q 2 hG ?_
   refine .E0 [j0,j0,j1,j1] (by kernel_rfl) 5 [[],[],[(38,0)],[(39,1)],[]] [2,3] a8 (by kernel_rfl) a8 (by kernel_rfl) (by decide) ?_
   refine⟨_,fun H=>j6.T1 A0 (.t a8) (u4.app .z3) a8,?_⟩
   refine⟨_,fun H=>j6.T1 U8 (.t a8) (u4.app .z2) a8,?_⟩
   refine .inl (.inl ?_)
   refine⟨_,fun H=>j6.assign (.i a8) a8,?_⟩
   refine⟨⟨([],j2 [_,_,c8,c8]),a8⟩,?_⟩
   refine A6.Q1 A0 (.t rfl) (.t rfl) .z1 ?_
   refine⟨⟨([],j2 [_,_,c8,c8]),a8⟩,?_⟩
   refine A6.Q1 U8 (.t rfl) (.t rfl) .z ?_
   refine⟨⟨([],j2 [_,_,c8,c8]),a8⟩,?_⟩
   show D6 _ _ _ _ _ [] ((8,_)::(39,_)::(38,_)::_) _
   refine .q 2 hG ?_
   refine⟨_,.r3 a8 (.cell A0 a8 .z1) (.cell U8 a8 .z) (.tmp a8),?_⟩
   obtain rfl:e=0:=Decidable.not_not.1 hc34
   have hx:l.length≤i:=by simpa using hc18
   rw [h2 rfl,List.drop_of_length_le hx];rfl
theorem c3w (a:D3) (p:Pass) (b:c17) (hp:p.j7.length≤1000000) (hb:∀ x∈a.y2,x.Y0.length≤1000000) (ht:b.j9.length≤1000000):u1 gl prog 81 [.v a,.v p,.v b] (fun r=>r = .t3 (.v (b2r a p b).1) (.v (b2r a p b).2.1) (.v (b2r a p b).2.2)):=by
 refine u1.jn func81 (by kernel_rfl) 54 rfl fun C hC hG => ?_
 refine .q 3 hG fun b3 => ?_
 refine .q 1 hG fun b4 => ?_
 refine .q 1 hG fun b5 => ?_
 refine .q 1 hG fun b6 => ?_
 refine .q 1 hG fun b7 => ?_
 refine .q 3 hG ?_
 refine .A8 hC .z2 (.O5 5 rfl .z2 (.a1a [[j1,j1,j1,j1,j1],[j1,j1,j1,j1,j1],[j1,j1,j1,j1,j0],[j1,j1,j1,j1,j0]] [[j1,j1,j1,j1,j1],[j1,j1,j1,j1,j1],[j1,j1,j1,j1,j1],[j1,j1,j1,j1,j1],[j1,j1,j1,j1,j1],[j1,j1,j1,j1,j1],[j1,j1,j1,j1,j1],[j1,j1,j1,j1,j1],[j1,j1,j1,j1,j1],[j1,j1,j1,j1,j0],[j1,j1,j1,j1,j0],[],[],[],[j1,j1,j1,j1,j0]] [] [] 3 (by kernel_rfl) 15 [[],[],[(14,1)],[],[(16,3)],[(17,4)],[(13,0),(15,2),(18,5)],[(19,6)],[(12,7)],[(12,7)],[(12,7)],[],[(20,8)],[(9,11),(21,9)],[(22,10)]] [11,12,13] rfl (by kernel_rfl) rfl (by kernel_rfl) rfl (by decide) (by simp) (fun p hp=>by cases hp) (by kernel_rfl) rfl ?_))
 refine⟨_,fun H=>j6.T1 A0 (.t a8) (u4.app .z4) a8,?_⟩
 refine⟨_,fun H=>j6.B0 x8.l3 a6S a8 (.t a8) a8,?_⟩
 refine⟨_,fun H=>j6.ldF (fun x=>x.Tag) A5 (.t a8) (u4.app .z3) (fun _=>a8) a8,?_⟩
 refine⟨_,fun H=>j6.A9 C3.l2 (fun x=>x.j9) b0j a8 (fun _=>a8) (.t a8) a8,?_⟩
 refine⟨_,fun H=>j6.G9 a3E (.t a8) a8,?_⟩
 refine⟨_,fun H=>j6.o9 hG (b4j _ ht) (.cons (.t a8) .nil) a8,?_⟩
 refine⟨_,fun H=>j6.o9 hG (a5X _ _ _) (.cons (.t a8) (.cons (.t a8) (.cons (.t a8) .nil))) a8,?_⟩
 refine⟨_,fun H=>j6.move (.t a8) a8,?_⟩
 refine⟨_,fun H=>j6.O7 (.t a8) a8,?_⟩
 refine⟨_,fun H=>j6.O8 (.t a8) a8,?_⟩
 refine⟨_,fun H=>j6.O9 (.t a8) a8,?_⟩
 refine .inl (.inl (.inl ?_))
 refine⟨_,fun H=>j6.assign (.t a8) a8,?_⟩
 refine⟨a8,?_⟩
 refine⟨⟨j2 [c8,c8,c8,c8,c8],a8⟩,fun Ys1 => ?_⟩
 refine A6.alloc A5 fun b9 => ?_
 refine⟨[_],_,a8,?_⟩
 refine⟨⟨j2 [c8,c8,c8,c8,c8],a8⟩,fun Ys1 => ?_⟩
 refine A6.Q1 A0 (.t rfl) (.t rfl) (.s (u4.app (u4.app .z4))) ?_
 refine⟨[_],_,a8,?_⟩
 refine⟨⟨j2 [c8,c8,c8,c8,_],a8⟩,fun Ys1 => ?_⟩
 refine A6.Q1 A5 (.t rfl) (.t rfl) .z ?_
 refine⟨[_],_,a8,?_⟩
 refine⟨⟨j2 [c8,c8,c8,c8,_],a8⟩,fun ws1 => ?_⟩
 refine⟨⟨j2 [c8,c8,c8,c8,_],a8⟩,fun _ => ?_⟩
 show D6 _ _ _ _ _ [] ((10,_)::(9,_)::(22,_)::(21,_)::(20,_)::(12,_)::(19,_)::(18,_)::(17,_)::(16,_)::(15,_)::(14,_)::(13,_)::_) _
 refine .q 8 hG ⟨fun hc24 => ?_,fun hc24 => ?_⟩
 ·refine .q 2 hG ?_
  refine .p (.bS0 (α:=m0) a8 A0 a1n (.p (.bS0 (α:=x8) a8 U8 b0f (.mv a8 (.n (.Q1 A0 (.t a8) (.t a8) .z2 (.n (.Q1 U8 (.t a8) (.t a8) .z1 (.ag a8 ?_)))))))))
  refine .q 2 hG ?_
  refine⟨_,.r3 a8 (.cell A0 a8 .z2) (.cell U8 a8 .z1) (.tmp a8),?_⟩
  unfold b2r
  rw [Q2 (r:=H4 a p.Tag (D4 b.j9)) hc24]
 ·refine .q 2 hG ?_
  have hb1:∀ x∈(H4 a p.Tag (D4 b.j9)).1.y2,x.Y0.length≤1000000:=fun x hx=>hb x (b0T hx)
  refine .a1a [[j1,j1,j1,j1,j1,j1],[j1,j1,j1,j1,j1,j0]] [[j1,j1,j1,j1,j1,j1],[j1,j1,j1,j1,j1,j1],[j1,j1,j1,j1,j1,j1],[j1,j1,j1,j1,j1,j1],[j1,j1,j1,j1,j1,j1],[j1,j1,j1,j1,j1,j1],[j1,j1,j1,j1,j1,j1],[j1,j1,j1,j1,j1,j0],[j1,j1,j1,j1,j1,j0],[],[j1,j1,j1,j1,j1,j0],[j1,j1,j1,j1,j1,j0]] [] [] 1 (by kernel_rfl) 12 [[],[],[],[(31,2)],[(29,0),(30,1),(32,3)],[(33,4)],[(28,5)],[(28,5)],[(28,5)],[(34,6)],[(35,7)],[(36,8)]] [9] rfl (by kernel_rfl) rfl (by kernel_rfl) rfl (by decide) (by simp) (fun p hp=>by cases hp) (by kernel_rfl) rfl ?_
  refine⟨_,fun H=>j6.T1 A0 (.t a8) (u4.app .z5) a8,?_⟩
  refine⟨_,fun H=>j6.T1 A5 (.t a8) (u4.app .z) a8,?_⟩
  refine⟨_,fun H=>j6.A9 C3.l1 (fun x=>x.Key) b9H a8 (fun _=>a8) (.t a8) a8,?_⟩
  refine⟨_,fun H=>j6.P0 (by decide) O1 (.t a8) a8,?_⟩
  refine⟨_,fun H=>j6.o9 hG (b5x _ _ _ _ hb1) (.cons (.t a8) (.cons (.t a8) (.cons (.i a8) (.cons (.t a8) .nil)))) a8,?_⟩
  refine⟨_,fun H=>j6.move (.t a8) a8,?_⟩
  refine⟨_,fun H=>j6.O7 (.t a8) a8,?_⟩
  refine⟨_,fun H=>j6.O8 (.t a8) a8,?_⟩
  refine⟨_,fun H=>j6.O9 (.t a8) a8,?_⟩
  refine .inl ?_
  refine⟨_,fun H=>j6.assign (.t a8) a8,?_⟩
  refine⟨_,fun H=>j6.assign (.t a8) a8,?_⟩
  refine⟨a8,?_⟩
  refine⟨⟨j2 [c8,c8,c8,c8,c8,c8],a8⟩,fun Ys4 => ?_⟩
  refine A6.Q1 A0 (.t rfl) (.t rfl) (u4.app (u4.app .z5)) ?_
  refine⟨[],_,a8,?_⟩
  refine⟨⟨j2 [c8,c8,c8,c8,c8,_],a8⟩,fun ws4 => ?_⟩
  refine⟨⟨j2 [c8,c8,c8,c8,c8,_],a8⟩,fun _ => ?_⟩
  show D6 _ _ _ _ _ [] ((10,_)::(11,_)::(36,_)::(35,_)::(34,_)::(28,_)::(33,_)::(32,_)::(31,_)::(30,_)::(29,_)::_) _
  refine .q 8 hG ⟨fun hc38 => ?_,fun hc38 => ?_⟩
  ·refine .q 2 hG ?_
   refine .p (.bS0 (α:=m0) a8 A0 a1n (.p (.bS0 (α:=x8) a8 U8 b0f (.mv a8 (.n (.Q1 A0 (.t a8) (.t a8) .z2 (.n (.Q1 U8 (.t a8) (.t a8) .z1 (.ag a8 ?_)))))))))
   refine .q 2 hG ?_
   refine⟨_,.r3 a8 (.cell A0 a8 .z2) (.cell U8 a8 .z1) (.tmp a8),?_⟩
   unfold b2r
   rw [F8 (r:=H4 a p.Tag (D4 b.j9)) (Decidable.not_not.1 hc24),Q2 hc38]
  ·refine .q 3 hG ?_
   refine .p (.T1 A0 (.t a8) .z5 (.p (.T1 U8 (.t a8) .z4 (.p (.A9 C3.l0 (fun x=>x.F9) b9G a8 (fun _=>a8) (.t a8) (.p (.G9 R3 (.t a8) (.p (.A9 C3.l2 (fun x=>x.j9) b0j a8 (fun _=>a8) (.t a8) (.p (.G9 a3E (.t a8) (.mv a8 (.p (.bS4 m9.l0 m9.l2 m9.l3 m9.l4 a8 a0n b9E (fun c0 c2 c3 c4=>(⟨c0,default,c2,c3,c4⟩:m9)) (fun _ _ _ _=>a8) a8 a8 a8 a8 a8 .b (.t a8) (.t a8) (.t a8) (.p (.o9 hG (c1l _ _ _ hp) (.cons (.t a8) (.cons (.t a8) (.cons (.t a8) .nil))) (.p (.O7 (.t a8) (.p (.O8 (.t a8) (.p (.O9 (.t a8) (.n (.Q1 A0 (.t a8) (.t a8) .z2 (.n (.Q1 U8 (.t a8) (.t a8) .z1 (.ag a8 ?_)))))))))))))))))))))))))))
   refine .q 2 hG ?_
   refine⟨_,.r3 a8 (.cell A0 a8 .z2) (.cell U8 a8 .z1) (.tmp a8),?_⟩
   unfold b2r
   rw [F8 (r:=H4 a p.Tag (D4 b.j9)) (Decidable.not_not.1 hc24),F8 (Decidable.not_not.1 hc38)]
structure Made (a:D3) (n:Nat) (k:Tag) (m:List UInt8) (b:D3) (t:Tag):Prop where
 mac:H4 a k m=(b,t,0)
 again:H4 b k m=(b,t,0)
 look:m5 b k m=(t,true)
 len:b.G5.length≤a.G5.length+1
 c47:a.G5.length≤b.G5.length
 old:∀ i (h:i < a.G5.length),m5 b a.G5[i].Key a.G5[i].Message=(a.G5[i].Tag,true)
 ok:G8 b (n+1)
theorem G8.b8F {a:D3} {n:Nat} (h:G8 a n) (i:Nat) (hi:i < a.G5.length):m5 a a.G5[i].Key a.G5[i].Message=(a.G5[i].Tag,true):=by
 obtain⟨h1,h2⟩:=h.tag i hi
 unfold m5
 cases hf:a.I7 with
 | true =>
  rw [if_pos rfl]
  unfold M8 S4
  rw [h.uniq i hi]
 | false =>
  rw [if_neg (by decide),if_neg (by omega),h2,hf];rfl
theorem G8.b0U {a:D3} {n:Nat} (h:G8 a n):∀ x∈a.y2,x.Plain.length≤1000000:=fun x hx=>by
 obtain⟨i,hi,rfl⟩:=List.getElem_of_mem hx
 have:=(h.box i hi).1
 omega
theorem b0V (k:Tag) (n:UInt64) (p:List UInt8):L5 k n (L5 k n p p.length) (L5 k n p p.length).length=p:=by
 rw [a7A,a7A]
 apply List.ext_getElem (by simp)
 intro i h1 h2
 simp [UInt8.xor_assoc]
theorem b2x (k:Tag) (n:Int) (p:List UInt8):(V8 k n p).length=p.length+8:=by simp [V8,E1,P3];omega
theorem a9X (k:Tag) (n:Int) (p:List UInt8):(Y9 k n p).take ((Y9 k n p).length - 32)=V8 k n p:=by
 rw [a2K]
 unfold Y9
 rw [List.take_left' (by rw [b2x];omega)]
theorem b6F (k:Tag) (n:Int) (p:List UInt8):(Y9 k n p).drop ((Y9 k n p).length - 32)=(a0o k.l (a3k.l++V8 k n p)).l:=by
 rw [a2K]
 unfold Y9
 rw [List.drop_left' (by rw [b2x];omega)]
theorem b6G (k:Tag) (n:Int) (p:List UInt8):a3I k (Y9 k n p)=p:=by
 unfold a3I
 rw [a9X]
 have h1:(V8 k n p).take 8=R9 (UInt64.ofInt n) 8:=by unfold V8;rw [List.take_left' (E1 _ _)]
 have h2:(V8 k n p).drop 8=L5 k (UInt64.ofInt n) p p.length:=by unfold V8;rw [List.drop_left' (E1 _ _)]
 rw [h1,h2,a7B,b0V]
structure P6 (a b:D3):Prop where
 free:b.I7=a.I7
 fresh:a.G0≤b.G0
 Z2:∃ l,b.G5=a.G5++l
 boxes:∃ l,b.y2=a.y2++l
theorem P6.refl (a:D3):P6 a a:=⟨rfl,Int.le_refl _,⟨[],(List.append_nil _).symm⟩,⟨[],(List.append_nil _).symm⟩⟩
theorem P6.trans {a b c:D3} (h:P6 a b) (g:P6 b c):P6 a c:=by
 obtain⟨l,hl⟩:=h.Z2
 obtain⟨m,hm⟩:=g.Z2
 obtain⟨p,hp⟩:=h.boxes
 obtain⟨q,hq⟩:=g.boxes
 exact⟨g.free.trans h.free,Int.le_trans h.fresh g.fresh,⟨l++m,by rw [hm,hl,List.append_assoc]⟩,⟨p++q,by rw [hq,hp,List.append_assoc]⟩⟩
theorem P6.c0q {a b:D3} (h:P6 a b) {x:o5} (hx:x∈a.y2):x∈b.y2:=by
 obtain⟨l,hl⟩:=h.boxes;rw [hl];exact List.mem_append_left _ hx
theorem look_eq {a:D3} {k t:Tag} {m:List UInt8}:m5 a k m=(t,true)↔(if a.I7 then (∃ x,S4 a k m=some x∧x.Tag=t) else (m.length≤4096∧a0o k.l m=t)):=by
  unfold m5 M8
  cases a.I7 with
  | true =>
    rw [if_pos rfl,if_pos rfl]
    cases S4 a k m with
    | none => constructor
              · intro h;cases h
              · rintro⟨x,h,_⟩;cases h
    | some x => constructor
                · intro h;exact⟨x,rfl,(Prod.mk.inj h).1⟩
                · rintro⟨y,h,rfl⟩;cases h;rfl
  | false =>
    rw [if_neg (show ¬(false=true) by decide),if_neg (show ¬(false=true) by decide)]
    by_cases h:4096 < m.length
    · rw [if_pos h];constructor
      · intro h;cases h
      · rintro⟨h,_⟩;omega
    · rw [if_neg h];constructor
      · intro h;exact⟨by omega,(Prod.mk.inj h).1⟩
      · rintro⟨_,rfl⟩;rfl
theorem P6.look {a b:D3} (h:P6 a b) {k t:Tag} {m:List UInt8} (hl:m5 a k m=(t,true)):m5 b k m=(t,true):=by
 rw [look_eq] at hl ⊢
 rw [h.free]
 cases hf:a.I7 with
 | true =>
  rw [hf,if_pos rfl] at hl
  rw [if_pos rfl]
  obtain⟨x,h1,h2⟩:=hl
  obtain⟨l,e⟩:=h.Z2
  refine⟨x,?_,h2⟩
  unfold S4 at *
  rw [e,List.find?_append,h1];rfl
 | false =>
  rw [hf,if_neg (by decide)] at hl
  rw [if_neg (by decide)];exact hl
theorem P6.looks {a b:D3} (h:P6 a b) {k:Tag} {m:List UInt8} (hl:(m5 a k m).2=true):(m5 b k m).2=true:=by
 rw [h.look (Prod.ext rfl hl)]
theorem c0r {a:D3} {k:Tag} {x p:List UInt8}:C5 a k x=(p,0)↔(if a.I7 then (∃ y,a.y2.find? (a3n k x)=some y∧y.Plain=p) else (¬(x.length < 40∨296 < x.length)∧(a0o k.l (a3k.l++x.take (x.length - 32))).l=x.drop (x.length - 32)∧a3I k x=p)):=by
  unfold C5
  cases a.I7 with
  | true =>
    rw [if_pos rfl,if_pos rfl]
    cases a.y2.find? (a3n k x) with
    | none => constructor
              · intro h;cases h
              · rintro⟨x,h,_⟩;cases h
    | some y => constructor
                · intro h;exact⟨y,rfl,(Prod.mk.inj h).1⟩
                · rintro⟨y,h,rfl⟩;cases h;rfl
  | false =>
    rw [if_neg (show ¬(false=true) by decide),if_neg (show ¬(false=true) by decide)]
    by_cases h:x.length < 40∨296 < x.length
    · rw [if_pos h];constructor
      · intro h;cases h
      · rintro⟨h2,_⟩;exact absurd h h2
    · rw [if_neg h]
      by_cases h2:(a0o k.l (a3k.l++x.take (x.length - 32))).l=x.drop (x.length - 32)
      · rw [if_pos h2];constructor
        · intro h3;exact⟨h,h2,(Prod.mk.inj h3).1⟩
        · rintro⟨_,_,rfl⟩;rfl
      · rw [if_neg h2];constructor
        · intro h;cases h
        · rintro⟨_,h3,_⟩;exact absurd h3 h2
theorem P6.opens {a b:D3} (h:P6 a b) {k:Tag} {x p:List UInt8} (hl:C5 a k x=(p,0)):C5 b k x=(p,0):=by
 rw [c0r] at hl ⊢
 rw [h.free]
 cases hf:a.I7 with
 | true =>
  rw [hf,if_pos rfl] at hl
  rw [if_pos rfl]
  obtain⟨y,h1,h2⟩:=hl
  obtain⟨l,e⟩:=h.boxes
  exact⟨y,by rw [e,List.find?_append,h1];rfl,h2⟩
 | false =>
  rw [hf,if_neg (by decide)] at hl
  rw [if_neg (by decide)];exact hl
theorem b2y (n:UInt64):∀ k,k≤8→(R9 n k).foldl (fun a c=>256*a+c.toNat) 0=n.toNat/2^(64 - 8*k):=by
 intro k
 induction k with
 | zero=>intro _;have:=n.toNat_lt;simp [R9];omega
 | succ k ih =>
  intro hk
  rw [a1w,List.foldl_append,ih (by omega)]
  simp only [List.foldl_cons,List.foldl_nil]
  rw [c3t n (56 - 8*k) (by omega)]
  have e1:2^(64 - 8*k)=256*2^(56 - 8*k):=by
   rw [show 64 - 8*k=8+(56 - 8*k) by omega,Nat.pow_add]
  rw [show 64 - 8*(k+1)=56 - 8*k by omega,e1,Nat.mul_comm 256 (2^(56 - 8*k)),←Nat.div_div_eq_div_mul]
  generalize n.toNat/2^(56 - 8*k)=q
  omega
theorem a8X {m n:UInt64} (h:R9 m 8=R9 n 8):m=n:=by
 have h1:=b2y m 8 (by omega)
 have h2:=b2y n 8 (by omega)
 rw [h,h2] at h1
 apply UInt64.toNat_inj.1
 simpa using h1.symm
theorem b8G (c:UInt8) (n:Int):(V7 c n).l=b1Z c n 8++List.replicate 17 0:=by
 unfold V7
 have:(b1Z c n 8).length=15:=a4G c n 8
 show(b1Z c n 8).take 32++(default:Tag).l.drop (b1Z c n 8).length=_
 rw [List.take_of_length_le (by omega),this];rfl
theorem b4r {c d:UInt8} {m n:Int} (h:V7 c m=V7 d n):c=d∧UInt64.ofInt m=UInt64.ofInt n:=by
 have h2:=congrArg (·.l) h
 simp only [b8G] at h2
 have h3:=List.append_inj_left h2 (by rw [a4G,a4G])
 unfold b1Z at h3
 simp only [List.append_assoc] at h3
 have h4:=List.append_cancel_left h3
 simp only [List.singleton_append,List.cons.injEq] at h4
 exact⟨h4.1,a8X h4.2⟩
theorem a9Y {m n:Int} (hm0:0≤m) (hm:m < 18446744073709551616) (hn0:0≤n) (hn:n < 18446744073709551616) (h:UInt64.ofInt m=UInt64.ofInt n):m=n:=by
 have h2:=congrArg UInt64.toNat h
 simp [UInt64.ofInt] at h2
 omega
theorem b0W {c:UInt8} {i j:Nat} (hi:i < 1000000) (hj:j < 1000000) (h:V7 c ((i+1:Nat):Int)=V7 c ((j+1:Nat):Int)):i=j:=by
 have:=a9Y (by omega) (by omega) (by omega) (by omega) (b4r h).2
 omega
structure c0s (a:D3) (n:Nat) (k:Tag) (m:List UInt8) (b:D3) (t:Tag):Prop where
 eq:H4 a k m=(b,t,0)
 ok:G8 b (n+1)
 le:P6 a b
 look:m5 b k m=(t,true)
 boxes:b.y2=a.y2
 fresh:b.G0=a.G0
 Z2:∀ x∈b.G5,x∈a.G5∨(x.Key=k∧x.Message=m)
theorem G8.step {a:D3} {n:Nat} (h:G8 a n) (hn:n < 60000) (k:Tag) {m:List UInt8} (hm:m.length≤1000):∃ b t,c0s a n k m b t:=by
 have h1:=h.Z2
 have hok:=h.mac (by omega) (k:=k) hm
 cases hf:S4 a k m with
 | some x =>
  have e:H4 a k m=(a,x.Tag,0):=by unfold H4;rw [if_neg (by omega),hf]
  rw [e] at hok
  obtain⟨i,hi,rfl⟩:=List.getElem_of_mem (List.mem_of_find?_eq_some hf)
  have hx:=(a5g k m _).1 (List.find?_some hf)
  have hl:=h.b8F i hi
  rw [hx.1,hx.2] at hl
  exact⟨a,_,e,hok,P6.refl _,hl,a8,a8,fun x hx=>Or.inl hx⟩
 | none =>
  have e:=a33 (a:=a) (k:=k) (m:=m) (by omega) hf (by omega)
  rw [e] at hok
  have hi:a.G5.length < (a.G5 ++ [(⟨k,m,a3j a k m⟩:y5)]).length:=by simp
  have hl:=hok.b8F a.G5.length hi
  simp only [List.getElem_concat_length] at hl
  refine⟨_,_,e,hok,⟨rfl,Int.le_refl _,⟨_,rfl⟩,⟨[],by simp⟩⟩,hl,rfl,rfl,fun x hx => ?_⟩
  rcases List.mem_append.1 hx with h|h
  ·exact Or.inl h
  ·obtain rfl:=List.mem_singleton.1 h;exact Or.inr ⟨rfl,rfl⟩
structure b8H (a:D3) (n:Nat) (k:Tag) (m:List UInt8) (b:D3) (t:Tag):Prop where
 eq:a5D a k m=(b,t,0)
 ok:G8 b (n+2)
 le:P6 a b
 look:m5 b k m=(t,true)
 node:(m5 b t G2).2=true
 boxes:b.y2=a.y2
 fresh:b.G0=a.G0
 Z2:∀ x∈b.G5,x∈a.G5∨x.Message=m∨x.Message=G2
theorem G8.a0f {a:D3} {n:Nat} (h:G8 a n) (hn:n < 50000) (k:Tag) {m:List UInt8} (hm:m.length≤1000):∃ b t,b8H a n k m b t:=by
 obtain⟨b,t,s⟩:=h.step (by omega) k hm
 obtain⟨c,u,s2⟩:=s.ok.step (by omega) t (m:=G2) (by decide)
 refine⟨c,t,?_,s2.ok,s.le.trans s2.le,s2.le.look s.look,by rw [s2.look],s2.boxes.trans s.boxes,s2.fresh.trans s.fresh,fun x hx => ?_⟩
 ·unfold a5D;rw [s.eq,F8 rfl];dsimp only;rw [s2.eq,F8 rfl]
 ·rcases s2.Z2 x hx with h|⟨_,h⟩
  ·rcases s.Z2 x h with h|⟨_,h⟩
   ·exact Or.inl h
   ·exact Or.inr (Or.inl h)
  ·exact Or.inr (Or.inr h)
structure c0t (a:D3) (n:Nat) (b:D3) (t:Tag):Prop where
 eq:Q6 a=(b,t,0)
 ok:G8 b (n+1)
 le:P6 a b
 boxes:b.y2=a.y2
 Z2:b.G5=a.G5
 fresh:b.G0=a.G0+1
 sym:a.I7=true→t=V7 107 b.G0
theorem G8.b0X {a:D3} {n:Nat} (h:G8 a n) (hn:n < 60000):∃ b t,c0t a n b t:=by
 have h1:=h.a64
 have hok:=h.key (by omega)
 have e:Q6 a=(⟨a.I7,a.a4m,a.G0+1,a.G5,a.y2⟩,(if a.I7 then V7 107 (a.G0+1) else (derive a.a4m a8Q (a.G0+1)).1),0):=by
  unfold Q6;rw [if_neg (by omega)]
 rw [e] at hok
 exact⟨_,_,e,hok,⟨rfl,by show a.G0≤a.G0+1;omega,⟨[],by simp⟩,⟨[],by simp⟩⟩,rfl,rfl,rfl,fun hf=>by rw [hf];rfl⟩
theorem G8.b5C {b:D3} {m:Nat} (hb:G8 b m) (hm:m≤60000) {i:Nat} (h:i < b.y2.length):C5 b b.y2[i].Key b.y2[i].Y0=(b.y2[i].Plain,0)∧b.y2[i].Y0.length=b.y2[i].Plain.length+40:=by
 have hl:=hb.boxes
 obtain⟨h1,h2,h3,h4⟩:=hb.box i h
 cases hf:b.I7 with
 | true =>
  rw [hf,if_pos rfl] at h4
  refine⟨?_,by rw [h4,List.length_append,J0.len,List.length_replicate];omega⟩
  cases hq:b.y2.find? (a3n b.y2[i].Key b.y2[i].Y0) with
  | none =>
   have:=List.find?_eq_none.1 hq b.y2[i] (List.getElem_mem h)
   simp [a3n] at this
  | some y =>
   rw [a3o hf hq]
   have hy:=List.find?_some hq
   obtain⟨j,hj,rfl⟩:=List.getElem_of_mem (List.mem_of_find?_eq_some hq)
   obtain⟨_,_,_,g4⟩:=hb.box j hj
   rw [hf,if_pos rfl] at g4
   simp only [a3n,Bool.and_eq_true,decide_eq_true_eq] at hy
   have e:=hy.2
   rw [g4,h4] at e
   obtain rfl:=b0W (by omega) (by omega) (J0.ext (List.append_inj_left e (by rw [J0.len,J0.len])))
   rfl
 | false =>
  rw [hf,if_neg (by decide)] at h4
  have hlen:b.y2[i].Y0.length=b.y2[i].Plain.length+40:=by rw [h4,a2K]
  refine⟨?_,hlen⟩
  rw [a55 hf (by omega)]
  ·rw [h4,b6G]
  ·rw [h4,a9X,b6F]
structure b8I (a:D3) (n:Nat) (k:Tag) (c:Int) (p:List UInt8) (b:D3) (x:List UInt8):Prop where
 eq:Q7 a k c p=(b,x,0)
 ok:G8 b (n+1)
 le:P6 a b
 opens:C5 b k x=(p,0)
 len:x.length=p.length+40
 Z2:b.G5=a.G5
 fresh:b.G0=a.G0
 at_:∃ i,∃ h:i < b.y2.length,b.y2[i]=⟨k,c,p,x⟩
 boxes:∀ y∈b.y2,y∈a.y2∨y=⟨k,c,p,x⟩
theorem G8.b2z {a:D3} {n:Nat} (ha:G8 a n) (hn:n < 50000) (k:Tag) {c:Int} {p:List UInt8} (hc0:0≤c) (hc1:c≤281474976710656) (hp:p.length≤256):∃ b x,b8I a n k c p b x:=by
 have hok:=ha.boxed (by omega) (k:=k) hc0 hc1 hp
 have hr:(decide (c < 0)||decide (281474976710656 < c))=false:=by simp;omega
 have hl:=ha.boxes
 cases hf:a.y2.find? (a4I k c p) with
 | some y =>
  have e:=a3m hr (by omega) hf
  rw [e] at hok
  obtain⟨i,hi,rfl⟩:=List.getElem_of_mem (List.mem_of_find?_eq_some hf)
  have hy:=List.find?_some hf
  simp only [a4I,Bool.and_eq_true,decide_eq_true_eq] at hy
  obtain⟨h1,h2⟩:=ha.b5C (by omega) hi
  obtain⟨⟨e1,e2⟩,e3⟩:=hy
  rw [e1,e3] at h1
  rw [e3] at h2
  refine⟨a,_,e,hok,P6.refl _,h1,h2,a8,a8,⟨i,hi,?_⟩,fun y hy=>Or.inl hy⟩
  rw [←e1,←e2,←e3]
 | none =>
  have e:=a23 hr (by omega) hf (by omega)
  rw [e] at hok
  have hi:a.y2.length < (a.y2 ++ [(⟨k,c,p,a3l a k c p⟩:o5)]).length:=by simp
  obtain⟨h1,h2⟩:=hok.b5C (by omega) hi
  simp only [List.getElem_concat_length] at h1 h2
  refine⟨_,_,e,hok,⟨rfl,Int.le_refl _,⟨[],by simp⟩,⟨_,rfl⟩⟩,h1,h2,rfl,rfl,⟨a.y2.length,hi,by simp⟩,fun y hy => ?_⟩
  rcases List.mem_append.1 hy with h|h
  ·exact Or.inl h
  ·exact Or.inr (List.mem_singleton.1 h)
theorem P6.walk {a b:D3} (h:P6 a b) {k:Tag} {l:List (List UInt8)} {r:List Tag} (hl:M9 (m5 a) k l=some r):M9 (m5 b) k l=some r:=by
 unfold M9 at *
 generalize (some [k]:Option (List Tag))=o at hl ⊢
 induction l generalizing o with
 | nil=>exact hl
 | cons m l ih =>
  rw [List.foldl_cons] at hl ⊢
  cases o with
  | none =>
   have:Y2 (m5 a) none m=none:=rfl
   rw [this,a5h] at hl;cases hl
  | some s =>
   have e:Y2 (m5 a) (some s) m=Y2 (m5 b) (some s) m:=by
    show(if (m5 a (s.getLastD default) m).2 then some (s ++ [(m5 a (s.getLastD default) m).1]) else none)=if (m5 b (s.getLastD default) m).2 then some (s ++ [(m5 b (s.getLastD default) m).1]) else none
    cases h2:(m5 a (s.getLastD default) m).2 with
    | false =>
     have:Y2 (m5 a) (some s) m=none:=by
      show(if (m5 a (s.getLastD default) m).2 then some (s ++ [(m5 a (s.getLastD default) m).1]) else none)=none
      rw [h2];rfl
     rw [this,a5h] at hl;cases hl
    | true=>rw [h.look (Prod.ext rfl h2)]
   rw [←e];exact ih _ hl
theorem P6.dis {a b:D3} (h:P6 a b) {k t:Tag} {x:List UInt8} {l:List Pred} (hl:S2 a k x l=some t):S2 b k x l=some t:=by
 unfold S2 at *
 have hg:∀ u,a4M a k x=some u→a4M b k x=some u:=fun u hu=>by
  unfold a4M at *
  cases h2:(m5 a k (W0 x)).2 with
  | false=>rw [h2] at hu;cases hu
  | true=>rw [h2] at hu;rw [h.look (Prod.ext rfl h2)];exact hu
 cases h0:a4M a k x with
 | none=>rw [h0,a56] at hl;cases hl
 | some u =>
  rw [hg u h0];rw [h0] at hl
  clear h0
  induction l generalizing u with
  | nil=>exact hl
  | cons p l ih =>
   rw [List.foldl_cons] at hl ⊢
   have e:∀ v,U1 a (some u) p=some v→U1 b (some u) p=some v:=fun v hv=>by
    unfold U1 at *
    simp only [Option.bind_some] at hv ⊢
    split at hv
    ·next h3=>rw [h.look (Prod.ext rfl h3.2.2)];rw [if_pos ⟨h3.1,h3.2.1,rfl⟩];exact hv
    ·cases hv
   cases h4:U1 a (some u) p with
   | none=>rw [h4,a56] at hl;cases hl
   | some v=>rw [e v h4];rw [h4] at hl;exact ih v hl
theorem a6B (p:Tag→List UInt8→Tag×Bool) (k:Tag) (l:List (List UInt8)) (m:List UInt8):M9 p k (l ++ [m])=Y2 p (M9 p k l) m:=by
 unfold M9;rw [List.foldl_append];rfl
structure c0u (A:D3) (P:Pass) (g:Dis):Prop where
 tick:1≤g.j9.length∧g.j9.length≤100
 con:∀ p∈g.l8,A7 p=true∧p.Kind≠7
 a74:g.l8.length≤8
 cav:∃ c∈P.j7,c.K5=true∧c.j9=g.j9
 key:∃ bk:Tag,S2 A bk g.j9 g.l8=some g.Tag∧(A.I7=true→∃ n,bk=V7 107 n)
 box:∃ x∈A.y2,x.Y0=g.j9∧1≤x.E5
structure b6H (A:D3) (G:List Dis) (t:Tag) (c:Cav):Prop where
 th:∃ key bk g,g∈G∧m5 A t (D4 c.j9)=(key,true)∧C5 A key c.Y0=(bk.l,0)∧g.j9=c.j9∧S2 A bk g.j9 g.l8=some g.Tag
structure a0q (A:D3) (root:u7) (P:Pass) (G:List Dis) (T:List Tag) (n k:Nat):Prop where
 ok:G8 A n
 a3K:P.C7=root.Number∧1≤root.Number∧root.Number≤2
 a4S:1≤P.y7∧P.y7≤50
 a4N:P.j7.length≤k
 ngr:G.length≤k
 cav:∀ c∈P.j7,H5 c=true∧(D9 c).length≤200
 walk:M9 (m5 A) root.Key (D0 P.y7 P.j7)=some (root.Key::T)
 leaf:(root.Key::T).getLastD default=P.Tag
 a5k:T.length=P.j7.length+1
 nodes:∀ t∈T,(m5 A t G2).2=true
 a5E:∀ i (h:i < P.j7.length),P.j7[i].K5=true→b6H A G (T.getD i default) P.j7[i]
 a2d:∀ g∈G,c0u A P g
 nodup:(G.map (·.j9)).Nodup
 G3:∀ x∈A.y2,x.E5≤A.G0
 a67:A.I7=true→∀ x∈A.y2,x.Plain.length=32→∃ n:Int,x.Plain=(V7 107 n).l
def a3L (A:D3):Prop:=∀ x∈A.G5,∃ c,x.Message.head?=some c∧c≠114∧c≠98
theorem c0u.le {A B:D3} {P Q:Pass} {g:Dis} (h:c0u A P g) (hl:P6 A B) (hp:∀ c∈P.j7,c∈Q.j7):c0u B Q g:=by
 obtain⟨c,hc,hc2⟩:=h.cav
 obtain⟨bk,hb,hb2⟩:=h.key
 obtain⟨x,hx,hx2⟩:=h.box
 exact⟨h.tick,h.con,h.a74,⟨c,hp c hc,hc2⟩,⟨bk,hl.dis hb,fun hf=>hb2 (hl.free▸hf)⟩,⟨x,hl.c0q hx,hx2⟩⟩
theorem b6H.le {A B:D3} {G H:List Dis} {t:Tag} {c:Cav} (h:b6H A G t c) (hl:P6 A B) (hg:∀ g∈G,g∈H):b6H B H t c:=by
 obtain⟨key,bk,g,h1,h2,h3,h4,h5⟩:=h.th
 exact⟨key,bk,g,hg g h1,hl.look h2,hl.opens h3,h4,hl.dis h5⟩
theorem a0q.le {A B : D3} {root : u7} {P : Pass} {G : List Dis} {T : List Tag} {n m k : Nat} (h : a0q A root P G T n k) (hl : P6 A B) (hb : G8 B m) (hn : ∀ x ∈ B.y2, x.E5 ≤ B.G0)
    (hp:A.I7=true→∀ x∈B.y2,x.Plain.length=32→∃ n:Int,x.Plain=(V7 107 n).l):a0q B root P G T m k :=
  ⟨hb,h.a3K,h.a4S,h.a4N,h.ngr,h.cav,hl.walk h.walk,h.leaf,h.a5k,fun t ht=>hl.looks (h.nodes t ht),fun i hi h3=>(h.a5E i hi h3).le hl fun _ hg=>hg,
    fun g hg=>(h.a2d g hg).le hl fun _ hc=>hc,h.nodup,hn,fun hf=>hp (hl.free▸hf)⟩
theorem a0q.mac {A B:D3} {root:u7} {P:Pass} {G:List Dis} {T:List Tag} {n m k:Nat} (h:a0q A root P G T n k) (hl:P6 A B) (hb:G8 B m) (e:B.y2=A.y2):a0q B root P G T m k :=
 h.le hl hb (fun x hx=>Int.le_trans (h.G3 x (e▸hx)) hl.fresh) fun hf x hx=>h.a67 hf x (e▸hx)
theorem a0q.wide {A:D3} {root:u7} {P:Pass} {G:List Dis} {T:List Tag} {n k m j:Nat} (h:a0q A root P G T n k) (hm:n≤m) (hj:k≤j):a0q A root P G T m j :=
 ⟨h.ok.le hm,h.a3K,h.a4S,Nat.le_trans h.a4N hj,Nat.le_trans h.ngr hj,h.cav,h.walk,h.leaf,h.a5k,h.nodes,h.a5E,h.a2d,h.nodup,h.G3,h.a67⟩
theorem b2A {n:Int} (h:n≤50):(X7 n).length≤20:=by
 have:=B2 (n:=n.toNat) (by omega)
 unfold X7;simp;omega
theorem a5j {c:Cav} (h:H5 c=true):a0e c = [99,97,118,101,97,116]++D9 c:=by unfold a0e X5;rw [if_pos h]
theorem a0q.start (free : Bool) (seed : Tag) {A : D3} {root : u7} (he : 1 ≤ root.Number ∧ root.Number ≤ 2) {n : Int} (hA : G8 A 2) (hm : A.G5 = []) (hb : A.y2 = []) (h0 : 1 ≤ n) (h1 : n ≤ 50) :
    ∃ B P T,a7I A root n=(B,P,0)∧a0q B root P [] T 4 0∧a3L B∧B.I7=A.I7∧P.y7=n:=by
  obtain⟨b,t,s⟩:=hA.a0f (by omega) root.Key (m:=X7 n) (by have:=b2A h1;omega)
  have hbx:b.y2 = []:=s.boxes.trans hb
  refine⟨b,⟨root.Number,n,[],t⟩,[t],?_,⟨s.ok,⟨a8,he⟩,⟨h0,h1⟩,Nat.le_refl _,Nat.le_refl _,fun c hc=>(by cases hc),?_,a8,a8,fun u hu => ?_,fun i hi=>(by cases hi),fun g hg=>(by cases hg),List.nodup_nil,fun x hx=>(by rw [hbx] at hx;cases hx),fun _ x hx=>(by rw [hbx] at hx;cases hx)⟩,fun x hx => ?_,s.le.free,a8⟩
  · unfold a7I
    have hr:J8 root.Number n=true:=by unfold J8;simp;omega
    rw [if_neg (by rw [hr];decide),s.eq,F8 rfl]
  · show M9 (m5 b) root.Key [X7 n]=some [root.Key,t]
    show Y2 (m5 b) (some [root.Key]) (X7 n)=_
    show(if (m5 b root.Key (X7 n)).2 then some ([root.Key] ++ [(m5 b root.Key (X7 n)).1]) else none)=_
    rw [s.look];rfl
  · obtain rfl:=List.mem_singleton.1 hu;exact s.node
  · rcases s.Z2 x hx with h|h|h
    · rw [hm] at h;cases h
    · exact⟨109,by rw [h];rfl,by decide,by decide⟩
    · exact⟨110,by rw [h];rfl,by decide,by decide⟩
theorem b6I {A : D3} {root t u : Tag} {n : Int} {l : List Cav} {c : Cav} {T : List Tag} (h : M9 (m5 A) root (D0 n l) = some (root :: T)) (h2 : (root :: T).getLastD default = t) (h3 : m5 A t (a0e c) = (u, true)) :
    M9 (m5 A) root (D0 n (l ++ [c]))=some (root::(T ++ [u])):=by
  have e:D0 n (l ++ [c])=D0 n l ++ [a0e c]:=by unfold D0;rw [List.map_append];rfl
  rw [e,a6B,h]
  show(if (m5 A ((root::T).getLastD default) (a0e c)).2 then some ((root::T) ++ [(m5 A ((root::T).getLastD default) (a0e c)).1]) else none)=_
  rw [h2,h3];rfl
theorem a8Y {T:List Tag} {u:Tag} {i:Nat} (h:i < T.length):(T ++ [u]).getD i default=T.getD i default:=by
 rw [List.getD_eq_getElem?_getD,List.getD_eq_getElem?_getD,List.getElem?_append_left h]
theorem a0q.att {A : D3} {root : u7} {P : Pass} {G H : List Dis} {T : List Tag} {n k : Nat} (h : a0q A root P G T n k) (hn : n < 1000) (hk : k < 8) {c : Cav} (hc : H5 c = true) (hcl : (D9 c).length ≤ 200) (hh : a3L A) :
    ∃ B Q u,a4n A P c=(B,Q,0)∧G8 B (n+2)∧P6 A B∧B.y2=A.y2∧B.G0=A.G0∧a3L B∧Q.C7=P.C7∧Q.y7=P.y7∧Q.j7=P.j7 ++ [c]∧Q.Tag=u ∧
      M9 (m5 B) root.Key (D0 Q.y7 Q.j7)=some (root.Key::(T ++ [u]))∧(m5 B u G2).2=true:=by
  obtain⟨b,t,s⟩:=h.ok.a0f (by omega) P.Tag (m:=a0e c) (by rw [a5j hc,List.length_append];show 6+_≤_;omega)
  refine⟨b,⟨P.C7,P.y7,P.j7 ++ [c],t⟩,t,?_,s.ok,s.le,s.boxes,s.fresh,fun x hx => ?_,a8,a8,a8,a8,b6I (s.le.walk h.walk) h.leaf s.look,s.node⟩
  · unfold a4n
    have hm:a6A P c=false:=by
      have h1:=h.a4N
      have h2:=a0X P.j7
      unfold a6A a1g
      rw [decide_eq_false (by omega),decide_eq_false (by omega)];simp
    rw [if_neg (by rw [hc];decide),if_neg (by rw [hm];decide),s.eq,F8 rfl]
  · rcases s.Z2 x hx with h|h|h
    · exact hh x h
    · exact⟨99,by rw [h,a5j hc];rfl,by decide,by decide⟩
    · exact⟨110,by rw [h];rfl,by decide,by decide⟩
theorem a0q.first {A : D3} {root : u7} {P : Pass} {G : List Dis} {T : List Tag} {n k : Nat} (h : a0q A root P G T n k) (hn : n < 1000) (hk : k < 8) {p : Pred} (hp : A7 p = true) (hh : a3L A) :
    ∃ B Q U,a4n A P ⟨false,p,0,[],[]⟩=(B,Q,0)∧a0q B root Q G U (n+2) (k+1)∧a3L B∧B.I7=A.I7:=by
  have hc:H5 ⟨false,p,0,[],[]⟩=true:=by unfold H5;simp [hp]
  obtain⟨B,Q,u,h1,h2,h3,h4,h5,h6,h7,h8,h9,h10,h11,h12⟩:=h.att (H:=G) hn hk (c:=⟨false,p,0,[],[]⟩) hc (by unfold D9;have:=H7 (K6 hp);simp;omega) hh
  refine⟨B,Q,T ++ [u],h1,⟨h2,⟨h7.trans h.a3K.1,h.a3K.2⟩,by rw [h8];exact h.a4S,by rw [h9,List.length_append];have:=h.a4N;simp;omega,Nat.le_succ_of_le h.ngr,fun c hc => ?_,h11,?_,?_,fun t ht => ?_,fun i hi h3' => ?_,fun g hg => ?_,h.nodup,?_,?_⟩,h6,h3.free⟩
  · rw [h9] at hc
    rcases List.mem_append.1 hc with h|h
    · exact a0q.cav ‹_› c h
    · obtain rfl:=List.mem_singleton.1 h
      exact⟨‹_›,by unfold D9;have:=H7 (K6 hp);simp;omega⟩
  · rw [h10,←List.cons_append,List.getLastD_eq_getLast?,List.getLast?_append];rfl
  · rw [h9,List.length_append,List.length_append,h.a5k];rfl
  · rcases List.mem_append.1 ht with h'|h'
    · exact h3.looks (h.nodes t h')
    · obtain rfl:=List.mem_singleton.1 h';exact h12
  · by_cases e:i < P.j7.length
    · have e2:Q.j7[i]=P.j7[i]:=by simp only [h9];exact List.getElem_append_left e
      rw [e2] at h3' ⊢
      rw [a8Y (by rw [h.a5k];omega)]
      exact(h.a5E i e h3').le h3 fun _ hg=>hg
    · have hi2:=hi
      rw [h9,List.length_append] at hi2
      have e3:i=P.j7.length:=by simp at hi2;omega
      have e2:Q.j7[i]=⟨false,p,0,[],[]⟩:=by simp only [h9];rw [List.getElem_append_right (by omega)];simp
      rw [e2] at h3';cases h3'
  · exact(h.a2d g hg).le h3 fun c hc=>by rw [h9];exact List.mem_append_left _ hc
  · intro x hx;rw [h5];exact h.G3 x (h4▸hx)
  · intro hf x hx;exact h.a67 (h3.free▸hf) x (h4▸hx)
theorem G8.b8J {a:D3} {n:Nat} (h:G8 a n) (hn:n < 60000) {y z:o5} (hy:y∈a.y2) (hz:z∈a.y2) (e:y.Y0=z.Y0):y.E5=z.E5:=by
 obtain⟨i,hi,rfl⟩:=List.getElem_of_mem hy
 obtain⟨j,hj,rfl⟩:=List.getElem_of_mem hz
 obtain⟨_,a0,a1,h1⟩:=h.box i hi
 obtain⟨_,b0,b1,h2⟩:=h.box j hj
 have hl:=h.boxes
 cases hf:a.I7 with
 | true =>
  rw [hf,if_pos rfl] at h1 h2
  rw [h1,h2] at e
  obtain rfl:=b0W (by omega) (by omega) (J0.ext (List.append_inj_left e (by rw [J0.len,J0.len])))
  rfl
 | false =>
  rw [hf,if_neg (by decide)] at h1 h2
  rw [h1,h2] at e
  have e2:=congrArg (List.take 8) e
  unfold Y9 V8 at e2
  simp only [List.append_assoc] at e2
  rw [List.take_left' (E1 _ _),List.take_left' (E1 _ _)] at e2
  exact a9Y a0 (by omega) b0 (by omega) (a8X e2)
theorem a7L (a:D3) (k:Tag) (t:List UInt8) (l:List Pred) (p:Pred):S2 a k t (l ++ [p])=U1 a (S2 a k t l) p:=by
 unfold S2;rw [List.foldl_append];rfl
theorem a7M {a:D3} {t u:Tag} {p:Pred} (hp:A7 p=true) (h7:p.Kind≠7) (h:m5 a t (S6 p)=(u,true)):U1 a (some t) p=some u:=by
 unfold U1;simp only [Option.bind_some];rw [h,if_pos ⟨hp,h7,rfl⟩]
theorem a2N {p:Pred} (h:A7 p=true):S6 p = [99,111,110,100,105,116,105,111,110]++u6 p:=by unfold S6 V1;rw [if_pos h]
theorem a7N {p:Pred} (h:A7 p=true):(S6 p).length≤40:=by
 rw [a2N h,List.length_append];have:=H7 (K6 h);show 9+_≤_;omega
theorem a0q.restrict {A : D3} {root : u7} {P : Pass} {G : List Dis} {g : Dis} {T : List Tag} {n k : Nat} (h : a0q A root P (G ++ [g]) T n k) (hn : n < 1000) (hh : a3L A) {p : Pred} (hp : A7 p = true) (h7 : p.Kind ≠ 7) (hc : g.l8.length < 8) :
    ∃ B d,T6 A g p=(B,d,0)∧a0q B root P (G ++ [d]) T (n+1) k∧a3L B∧B.I7=A.I7∧d.l8.length=g.l8.length+1:=by
  obtain⟨B,t,s⟩:=h.ok.step (by omega) g.Tag (m:=S6 p) (by have:=a7N hp;omega)
  have hB:=h.mac s.le s.ok s.boxes
  have hstep:∀ bk:Tag,S2 A bk g.j9 g.l8=some g.Tag→S2 B bk g.j9 (g.l8 ++ [p])=some t:=fun bk hb=>by
    rw [a7L,s.le.dis hb,a7M hp h7 s.look]
  refine⟨B,⟨g.j9,g.l8 ++ [p],t⟩,?_,⟨hB.ok,hB.a3K,hB.a4S,hB.a4N,?_,hB.cav,hB.walk,hB.leaf,hB.a5k,hB.nodes,fun i hi h3 => ?_,fun d hd => ?_,?_,hB.G3,hB.a67⟩,fun x hx => ?_,s.le.free,by simp⟩
  · unfold T6
    rw [if_neg (by rw [hp];decide),if_neg h7,if_neg (by omega),s.eq,F8 rfl]
  · have:=hB.ngr;simpa using this
  · obtain⟨key,bk,d,h1,h2,h4,h5,h6⟩:=(h.a5E i hi h3).th
    rcases List.mem_append.1 h1 with hg|hg
    · exact⟨key,bk,d,List.mem_append_left _ hg,s.le.look h2,s.le.opens h4,h5,s.le.dis h6⟩
    · obtain rfl:=List.mem_singleton.1 hg
      exact⟨key,bk,_,List.mem_append_right _ (List.mem_singleton.2 a8),s.le.look h2,s.le.opens h4,h5,hstep bk h6⟩
  · rcases List.mem_append.1 hd with hg|hg
    · exact hB.a2d d (List.mem_append_left _ hg)
    · obtain rfl:=List.mem_singleton.1 hg
      have hg0:=h.a2d g (List.mem_append_right _ (List.mem_singleton.2 rfl))
      obtain⟨bk,hb,hb2⟩:=hg0.key
      obtain⟨x,hx,hx2⟩:=hg0.box
      refine⟨hg0.tick,fun q hq => ?_,by dsimp only;rw [List.length_append];simp;omega,hg0.cav,⟨bk,hstep bk hb,fun hf=>hb2 (s.le.free▸hf)⟩,⟨x,s.le.c0q hx,hx2⟩⟩
      rcases List.mem_append.1 hq with h'|h'
      · exact hg0.con q h'
      · obtain rfl:=List.mem_singleton.1 h';exact⟨hp,h7⟩
  · have:=hB.nodup;simpa using this
  · rcases s.Z2 x hx with h'|⟨_,h'⟩
    · exact hh x h'
    · exact⟨99,by rw [h',a2N hp];rfl,by decide,by decide⟩
theorem a29 (k:Tag):a0g k ⟨0,150⟩=k.l ++ [0,150,1]:=by
 unfold a0g;rw [List.append_assoc];congr 1
 show J7 0++J7 150 = [0,150,1]
 simp [J7]
theorem a0q.c4B {A : D3} {root : u7} {P : Pass} {G : List Dis} {T : List Tag} {n k : Nat} (h : a0q A root P G T n k) (hn : n < 900) (hk : k < 8) (hh : a3L A) {c : b0S} (hp0 : 0 ≤ c.F9) (hp7 : c.F9 ≤ 7) (s : Str) (hs : T9 s = true) :
    ∃ A1 b,a39 A c ⟨0,150⟩=(A1,b,0)∧G8 A1 (n+2)∧∃ A2 P2,b2r A1 P b=(A2,P2,0)∧C5 A2 c.Key b.j9=(b.Key.l ++ [0,150,1],0)∧G8 A2 (n+6)∧b.j9.length≤100 ∧
      ∃ A3 g U,a6a A2 b.Key b.j9 s=(A3,g,0)∧a0q A3 root P2 (G ++ [g]) U (n+8) (k+1)∧a3L A3∧A3.I7=A.I7∧g.l8.length=1:=by
  obtain⟨b1,kt,s1⟩:=h.ok.b0X (by omega)
  have hf0:=h.ok.a5Z
  have hf1:=h.ok.a64
  have hfr:=s1.fresh
  obtain⟨A1,x,s2⟩:=s1.ok.b2z (by omega) c.Key (c:=b1.G0) (p:=a0g kt ⟨0,150⟩) (by omega) (by omega) (by rw [a29,List.length_append,J0.len];decide)
  have hx:x.length=75:=by rw [s2.len,a29,List.length_append,J0.len];rfl
  obtain⟨a2,kt2,s3⟩:=s2.ok.step (by omega) P.Tag (m:=D4 x) (by unfold D4;rw [List.length_append];simp;omega)
  obtain⟨a3,bx,s4⟩:=s3.ok.b2z (by omega) kt2 (c:=0) (p:=kt.l) (by omega) (by omega) (by rw [J0.len];decide)
  have hbx:bx.length=72:=by rw [s4.len,J0.len]
  have le13:=s1.le.trans (s2.le.trans (s3.le.trans s4.le))
  have hfr3:a3.G0=A.G0+1:=by rw [s4.fresh,s3.fresh,s2.fresh,s1.fresh]
  have hbox:∀ y∈a3.y2,y∈A.y2∨y=⟨c.Key,b1.G0,a0g kt ⟨0,150⟩,x⟩∨y=⟨kt2,0,kt.l,bx⟩:=fun y hy=>by
    rcases s4.boxes y hy with h'|h'
    · rw [s3.boxes] at h'
      rcases s2.boxes y h' with h'|h'
      · rw [s1.boxes] at h';exact Or.inl h'
      · exact Or.inr (Or.inl h')
    · exact Or.inr (Or.inr h')
  have h3:a0q a3 root P G T (n+4) k:=by
    refine h.le le13 s4.ok (fun y hy => ?_) fun hf y hy hl => ?_
    · rcases hbox y hy with h'|rfl|rfl
      · have:=h.G3 y h';omega
      · dsimp only;omega
      · dsimp only;omega
    · rcases hbox y hy with h'|rfl|rfl
      · exact h.a67 hf y h' hl
      · rw [a29,List.length_append,J0.len] at hl;simp at hl
      · exact⟨_,congrArg (·.l) (s1.sym hf)⟩
  have hh3:a3L a3:=fun y hy=>by
    rw [s4.Z2] at hy
    rcases s3.Z2 y hy with h'|⟨_,h'⟩
    · rw [s2.Z2,s1.Z2] at h';exact hh y h'
    · exact⟨115,by rw [h'];rfl,by decide,by decide⟩
  have hc:H5 ⟨true,default,c.F9,x,bx⟩=true:=by unfold H5;simp;omega
  have hcl:(D9 ⟨true,default,c.F9,x,bx⟩).length≤200:=by
    have l1:=B2 (n:=c.F9.toNat) (by omega)
    have l2:=B2 (n:=x.length) (by omega)
    have l3:=B2 (n:=bx.length) (by omega)
    unfold D9 a0w;simp;omega
  obtain⟨A2,Q,u,e1,ok2,le2,bx2,fr2,hh2,q1,q2,q3,q4,w2,nd2⟩:=h3.att (H:=G) (by omega) hk hc hcl hh3
  obtain⟨a5,gt,s5⟩:=ok2.step (by omega) kt (m:=W0 x) (by unfold W0;rw [List.length_append];simp;omega)
  have hpo:A7 (a27 s)=true:=by unfold A7 a27;simp [hs]
  obtain⟨A3,t,s6⟩:=s5.ok.step (by omega) gt (m:=S6 (a27 s)) (by have:=a7N hpo;omega)
  have le36:P6 a3 A3:=le2.trans (s5.le.trans s6.le)
  have le16:P6 A A3:=le13.trans le36
  have hopen:C5 A2 c.Key x=(kt.l ++ [0,150,1],0):=by rw [←a29];exact(s3.le.trans (s4.le.trans le2)).opens s2.opens
  have hdis:S2 A3 kt x [a27 s]=some t:=by
    unfold S2 a4M
    rw [s6.le.look s5.look]
    exact a7M hpo (show(6:Int)≠7 by decide) s6.look
  have hbx6:A3.y2=a3.y2:=s6.boxes.trans (s5.boxes.trans bx2)
  have hfr6:A3.G0=a3.G0:=s6.fresh.trans (s5.fresh.trans fr2)
  obtain⟨i2,hi2,at2⟩:=s2.at_
  have hmem:(⟨c.Key,b1.G0,a0g kt ⟨0,150⟩,x⟩:o5)∈A3.y2:=by
    rw [hbx6];exact(s3.le.trans s4.le).c0q (at2▸List.getElem_mem hi2)
  have hlast:T.getD P.j7.length default=P.Tag:=by
    have h1:=h.leaf
    have h2:=h.a5k
    have hne:T ≠ []:=by intro e;rw [e] at h2;simp at h2
    rw [List.getLastD_eq_getLast?,List.getLast?_cons,] at h1
    rw [List.getD_eq_getElem?_getD,show P.j7.length=T.length - 1 by omega,←List.getLast?_eq_getElem?]
    rw [←h1]
    cases hq:T.getLast? with
    | none=>exact absurd (List.getLast?_eq_none_iff.1 hq) hne
    | some z=>rfl
  refine⟨A1,⟨c.F9,kt,x⟩,?_,s2.ok,A2,Q,?_,hopen,ok2,by dsimp only;omega,A3,⟨x,[a27 s],t⟩,T ++ [u],?_,⟨s6.ok,⟨q1.trans h.a3K.1,h.a3K.2⟩,by rw [q2];exact h.a4S,by rw [q3,List.length_append];have:=h.a4N;simp;omega,by rw [List.length_append];have:=h.ngr;simp;omega,?_,(s5.le.trans s6.le).walk w2,?_,?_,fun v hv => ?_,fun i hi ht => ?_,fun g hg => ?_,?_,?_,?_⟩,?_,?_,rfl⟩
  · unfold a39
    have ht:(a0K ⟨0,150⟩&&decide (0≤c.F9)&&decide (c.F9≤7))=true:=by unfold a0K;simp;omega
    rw [if_neg (by rw [ht];decide),s1.eq,F8 rfl]
    dsimp only
    rw [s2.eq,F8 rfl]
  · unfold b2r
    dsimp only
    rw [s3.eq,F8 rfl]
    dsimp only
    rw [s4.eq,F8 rfl]
    exact e1
  · unfold a6a
    dsimp only
    rw [s5.eq,F8 rfl]
    unfold T6
    rw [if_neg (by rw [hpo];decide),if_neg (show ¬(a27 s).Kind=7 from(by show ¬(6:Int)=7;decide)),if_neg (by simp)]
    dsimp only
    rw [s6.eq,F8 rfl]
    rfl
  · intro d hd
    rw [q3] at hd
    rcases List.mem_append.1 hd with h'|h'
    · exact h.cav d h'
    · obtain rfl:=List.mem_singleton.1 h';exact⟨hc,hcl⟩
  · rw [q4,←List.cons_append,List.getLastD_eq_getLast?,List.getLast?_append];rfl
  · rw [q3,List.length_append,List.length_append,h.a5k];rfl
  · rcases List.mem_append.1 hv with h'|h'
    · exact le16.looks (h.nodes v h')
    · obtain rfl:=List.mem_singleton.1 h';exact(s5.le.trans s6.le).looks nd2
  · by_cases e:i < P.j7.length
    · have e2:Q.j7[i]=P.j7[i]:=by simp only [q3];exact List.getElem_append_left e
      rw [e2] at ht ⊢
      rw [a8Y (by rw [h.a5k];omega)]
      exact(h.a5E i e ht).le le16 fun _ hg=>List.mem_append_left _ hg
    · have hi2:=hi
      rw [q3,List.length_append] at hi2
      obtain rfl:i=P.j7.length:=by simp at hi2;omega
      have e2:Q.j7[P.j7.length]=⟨true,default,c.F9,x,bx⟩:=by simp only [q3];rw [List.getElem_append_right (by omega)];simp
      rw [e2,a8Y (by rw [h.a5k];omega),hlast]
      exact⟨kt2,kt,⟨x,[a27 s],t⟩,List.mem_append_right _ (List.mem_singleton.2 a8),(s4.le.trans le36).look s3.look,le36.opens s4.opens,a8,hdis⟩
  · rcases List.mem_append.1 hg with h'|h'
    · exact(h.a2d g h').le le16 fun d hd=>by rw [q3];exact List.mem_append_left _ hd
    · obtain rfl:=List.mem_singleton.1 h'
      refine⟨by dsimp only;omega,fun q hq => ?_,(show 1≤8 by decide),⟨⟨true,default,c.F9,x,bx⟩,by rw [q3];exact List.mem_append_right _ (List.mem_singleton.2 rfl),rfl,rfl⟩,⟨kt,hdis,fun hf=>⟨_,s1.sym (le16.free▸hf)⟩⟩,⟨_,hmem,rfl,by dsimp only;omega⟩⟩
      obtain rfl:=List.mem_singleton.1 hq;exact⟨hpo,show(6:Int)≠7 by decide⟩
  · rw [List.map_append,List.nodup_append]
    refine⟨h.nodup,by simp,fun a ha b hb e => ?_⟩
    simp only [List.map_cons,List.map_nil,List.mem_singleton] at hb
    obtain⟨g,hg,rfl⟩:=List.mem_map.1 ha
    obtain⟨y,hy,hy1,hy2⟩:=(h.a2d g hg).box
    have:=s6.ok.b8J (by omega) (le16.c0q hy) hmem (by rw [hy1,e,hb])
    have:=h.G3 y hy
    dsimp only at *
    omega
  · intro y hy;rw [hbx6] at hy;rw [hfr6];exact h3.G3 y hy
  · intro hf y hy;rw [hbx6] at hy;exact h3.a67 (le36.free▸hf) y hy
  · intro y hy
    rcases s6.Z2 y hy with h'|⟨_,h'⟩
    · rcases s5.Z2 y h' with h'|⟨_,h'⟩
      · exact hh2 y h'
      · exact⟨103,by rw [h'];rfl,by decide,by decide⟩
    · exact⟨99,by rw [h',a2N hpo];rfl,by decide,by decide⟩
  · exact le16.free
abbrev Ring:=D2
abbrev Epo:=u7
def a2c (r:Ring) (n:Int):Option Epo:=r.Live.find? fun e=>decide (e.Number=n)
def a3a (l:List Bnd) (t:List UInt8):Option Bnd:=l.find? fun d=>decide (d.j9=t)
def a1l (f:Nat→Int) (n:Nat):Int:=(((List.range n).map f).find? fun e=>decide (e≠0)).getD 0
theorem a3b (f:Nat→Int) (n:Nat):a1l f (n+1)=if a1l f n≠0 then a1l f n else f n:=by
 unfold a1l
 rw [List.range_succ,List.map_append,List.find?_append]
 cases h:((List.range n).map f).find? fun e=>decide (e≠0) with
 | some e =>
  have:=List.find?_some h
  simp only [ne_eq,decide_not,Bool.not_eq_true',decide_eq_false_iff_not] at this
  simp [this]
 | none =>
  simp only [Option.none_or,Option.getD_none,ne_eq,not_true_eq_false,if_false]
  by_cases h0:f n=0
  ·simp [h0]
  ·simp [h0]
theorem a7O {f:Nat→Int} {n:Nat}:a1l f n=0↔∀ i,i < n→f i=0:=by
 induction n with
 | zero=>exact⟨fun _ i hi=>(by omega),fun _=>rfl⟩
 | succ n ih =>
  rw [a3b]
  by_cases h:a1l f n=0
  ·rw [if_neg (by simpa using h)]
   exact⟨fun h2 i hi=>(by rcases Nat.lt_or_ge i n with h3|h3;exact ih.1 h i h3;(obtain rfl:i=n:=by omega);exact h2),fun h2=>h2 n (by omega)⟩
  ·rw [if_pos h]
   exact⟨fun h2=>absurd h2 h,fun h2=>absurd (ih.2 fun i hi=>h2 i (by omega)) h⟩
theorem b6J {f:Nat→Int} {n k:Nat} (hk:k < n) (h:a1l f k=0) (h2:f k≠0):a1l f n=f k:=by
 induction n with
 | zero=>omega
 | succ n ih =>
  rw [a3b]
  rcases Nat.lt_or_ge k n with h3|h3
  ·have:=ih h3
   rw [if_pos (by rw [this];exact h2),this]
  ·obtain rfl:k=n:=by omega
   rw [if_neg (by simpa using h)]
def a0h (a:D3) (b:O4) (c:Cav) (tag leaf:Tag):Int :=
 if (m5 a tag (D4 c.j9)).2=false then 14 else
 if (C5 a (m5 a tag (D4 c.j9)).1 c.Y0).2≠0∨(C5 a (m5 a tag (D4 c.j9)).1 c.Y0).1.length≠32 then 14 else
 match a3a b.j3 c.j9 with
 | none=>17
 | some d =>
  if (a1H a (S3 default (C5 a (m5 a tag (D4 c.j9)).1 c.Y0).1) c.j9 d.l8).2=false then 20 else
  if V2 a (a1H a (S3 default (C5 a (m5 a tag (D4 c.j9)).1 c.Y0).1) c.j9 d.l8).1 leaf b.Request≠(d.Proof,true) then 20 else 0
def a4T (b:O4) (d:Bnd):Bool := !(b.j7.any fun c=>c.K5&&decide (c.j9=d.j9))
def a69 (b:O4):Bool:=b.j3.any (a4T b)
def thE (a:D3) (b:O4) (T:List Tag) (i:Nat):Int:=if (b.j7.getD i default).K5 then a0h a b (b.j7.getD i default) (T.getD i default) (T.getLastD default) else 0
def b4s (a:D3) (b:O4) (root:Epo):y6×Int :=
 if (Y4 a root b.y7 b.j7).2≠0 then (default,19) else
 if a0p a ((Y4 a root b.y7 b.j7).1.getLastD default) b.Request≠(b.Proof,true)∨(a1G a (Y4 a root b.y7 b.j7).1).2≠0 then (default,19) else
 if a1l (thE a b (Y4 a root b.y7 b.j7).1) b.j7.length≠0 then (default,a1l (thE a b (Y4 a root b.y7 b.j7).1) b.j7.length) else
 if a69 b then (default,18) else (⟨(a1G a (Y4 a root b.y7 b.j7).1).1,(Y4 a root b.y7 b.j7).1.getLastD default⟩,0)
def a6c (a:D3) (g:Ring) (b:O4):y6×Int :=
 if K3 b≠0 then (default,K3 b) else
 match a2c g b.C7 with
 | none=>(default,16)
 | some root=>b4s a b root
theorem c2c {a:D3} {g:Ring} {b:O4} (h:K3 b≠0):a6c a g b=(default,K3 b):=by unfold a6c;rw [if_pos h]
theorem c3x {a:D3} {g:Ring} {b:O4} (h:K3 b=0) (h2:a2c g b.C7=none):a6c a g b=(default,16):=by unfold a6c;rw [if_neg (by simpa using h),h2]
theorem b0Y {a:D3} {g:Ring} {b:O4} {root:Epo} (h:K3 b=0) (h2:a2c g b.C7=some root):a6c a g b=b4s a b root:=by unfold a6c;rw [if_neg (by simpa using h),h2]
theorem c3y {a:D3} {b:O4} {root:Epo} (h:(Y4 a root b.y7 b.j7).2≠0):b4s a b root=(default,19):=by unfold b4s;rw [if_pos h]
theorem b0Z {a : D3} {b : O4} {root : Epo} {T : List Tag} (h : Y4 a root b.y7 b.j7 = (T, 0)) : b4s a b root =
    if a0p a (T.getLastD default) b.Request≠(b.Proof,true)∨(a1G a T).2≠0 then (default,19) else
    if a1l (thE a b T) b.j7.length≠0 then (default,a1l (thE a b T) b.j7.length) else
    if a69 b then (default,18) else (⟨(a1G a T).1,T.getLastD default⟩,0):=by
  unfold b4s;rw [h];rfl
structure b5D (a:D3) (b:O4) (c:Cav) (t leaf:Tag):Prop where
 th:∃ key plain d u,m5 a t (D4 c.j9)=(key,true)∧C5 a key c.Y0=(plain.l,0)∧a3a b.j3 c.j9=some d∧S2 a plain c.j9 d.l8=some u∧m5 a u (U0 leaf b.Request)=(d.Proof,true)
theorem a7a {l:List UInt8} (h:l.length=32):(S3 (default:Tag) l).l=l:=by
 show l.take 32++(default:Tag).l.drop l.length=l
 rw [List.take_of_length_le (by omega),List.drop_of_length_le (by rw [J0.len];omega),List.append_nil]
theorem a6C (t:Tag):S3 (default:Tag) t.l=t:=J0.ext (a7a t.len)
theorem a7P {a:D3} {b:O4} {c:Cav} {t leaf:Tag} (hr:S1 b.Request=true):a0h a b c t leaf=0↔b5D a b c t leaf:=by
 constructor
 ·intro h
  unfold a0h at h
  split at h
  ·cases h
  ·next h1 =>
   split at h
   ·cases h
   ·next h2 =>
    have h1:(m5 a t (D4 c.j9)).2=true:=by simpa using h1
    have h2:(C5 a (m5 a t (D4 c.j9)).1 c.Y0).2=0∧(C5 a (m5 a t (D4 c.j9)).1 c.Y0).1.length=32:=by simpa using h2
    split at h
    ·cases h
    ·next d hd =>
     split at h
     ·cases h
     ·next h3 =>
      split at h
      ·cases h
      ·next h4 =>
       have h3:(S2 a (S3 default (C5 a (m5 a t (D4 c.j9)).1 c.Y0).1) c.j9 d.l8).isSome=true:=by unfold a1H at h3;exact eq_true_of_ne_false h3
       obtain⟨u,hu⟩:=Option.isSome_iff_exists.1 h3
       have h4:V2 a u leaf b.Request=(d.Proof,true):=by
        have:V2 a (a1H a (S3 default (C5 a (m5 a t (D4 c.j9)).1 c.Y0).1) c.j9 d.l8).1 leaf b.Request=(d.Proof,true):=Decidable.not_not.1 h4
        unfold a1H at this;rw [hu] at this;exact this
       unfold V2 at h4
       rw [if_pos hr] at h4
       exact⟨_,_,d,u,Prod.ext a8 h1,Prod.ext (by rw [a7a h2.2]) h2.1,hd,hu,h4⟩
 ·rintro⟨key,plain,d,u,h1,h2,h3,h4,h5⟩
  unfold a0h
  have hp:plain.l.length=32:=plain.len
  rw [h1];dsimp only
  rw [h2];dsimp only
  rw [if_neg (by decide),if_neg (by simp [hp]),h3]
  dsimp only
  unfold a1H V2
  rw [a6C,h4,if_neg (by simp),if_pos hr]
  rw [if_neg (by simp [h5])]
structure b5E (a:D3) (k:Tag) (b:O4) (T:List Tag):Prop where
 chk:K3 b=0
 walk:M9 (m5 a) k (D0 b.y7 b.j7)=some (k::T)
 a5k:T.length=b.j7.length+1
 nodes:∀ t∈T,(m5 a t G2).2=true
 proof:m5 a (T.getLastD default) (a1r b.Request)=(b.Proof,true)
 a5E:∀ i (h:i < b.j7.length),b.j7[i].K5=true→b5D a b b.j7[i] (T.getD i default) (T.getLastD default)
 extra:a69 b=false
theorem a2s {b:O4} (h:K3 b=0):a7G b:=by
 unfold K3 at h
 split at h
 ·next h1=>exact absurd h h1
 ·next h1=>exact a4O (by simpa using h1)
theorem a6d {a:D3}:∀ {l:List Tag} {s:List Tag},(∀ t∈l,(m5 a t G2).2=true)→∃ r,l.foldl (a0f a) (some s)=some (s++r)∧r.length=l.length
 | [],s,_=>⟨[],by simp,rfl⟩
 | t::l,s,h=>by
  rw [List.foldl_cons]
  have:a0f a (some s) t=some (s ++ [(m5 a t G2).1]):=by
   show(if (m5 a t G2).2 then some (s ++ [(m5 a t G2).1]) else none)=_
   rw [if_pos (h t (by simp))]
  rw [this]
  obtain⟨r,h1,h2⟩:=a6d (a:=a) (l:=l) (s:=s ++ [(m5 a t G2).1]) fun u hu=>h u (by simp [hu])
  exact⟨(m5 a t G2).1::r,by rw [h1,List.append_assoc];rfl,by simp [h2]⟩
theorem a8Z {a:D3}:∀ {l:List Tag} {s r:List Tag},l.foldl (a0f a) (some s)=some r→∀ t∈l,(m5 a t G2).2=true
 | [],_,_,_=>fun t ht=>(by cases ht)
 | t::l,s,r,h=>by
  rw [List.foldl_cons] at h
  cases h2:(m5 a t G2).2 with
  | false =>
   have:a0f a (some s) t=none:=by
    show(if (m5 a t G2).2 then some (s ++ [(m5 a t G2).1]) else none)=_
    rw [h2];rfl
   rw [this,a8T] at h;cases h
  | true =>
   have:a0f a (some s) t=some (s ++ [(m5 a t G2).1]):=by
    show(if (m5 a t G2).2 then some (s ++ [(m5 a t G2).1]) else none)=_
    rw [h2];rfl
   rw [this] at h
   intro u hu
   rcases List.mem_cons.1 hu with rfl|hu
   ·exact h2
   ·exact a8Z h u hu
theorem a9Z {a:D3} {l:List Tag}:(a1G a l).2=0↔∀ t∈l,(m5 a t G2).2=true:=by
 unfold a1G a0R
 constructor
 ·intro h
  split at h
  ·next r hr=>exact a8Z hr
  ·cases h
 ·intro h
  obtain⟨r,h1,_⟩:=a6d (s := []) h
  rw [h1]
theorem b4t {a:D3} {l:List Tag} (h:∀ t∈l,(m5 a t G2).2=true):(a1G a l).1.length=l.length:=by
 obtain⟨r,h1,h2⟩:=a6d (s := []) h
 unfold a1G a0R
 rw [h1];simpa using h2
theorem b2B {a:D3} {root:Epo} {n:Int} {l:List Cav} {T:List Tag} (h1:J8 root.Number n=true) (h2:l.all H5=true) (h:M9 (m5 a) root.Key (D0 n l)=some (root.Key::T)):Y4 a root n l=(T,0):=by
 unfold Y4;rw [if_neg (by rw [h1];decide),if_neg (by rw [h2];decide),h];rfl
theorem a80 {a:D3} {root:Epo} {n:Int} {l:List Cav} (h:(Y4 a root n l).2=0):∃ T,M9 (m5 a) root.Key (D0 n l)=some (root.Key::T)∧T.length=l.length+1∧Y4 a root n l=(T,0):=by
 unfold Y4 at *
 split at h
 ·cases h
 ·next h1 =>
  split at h
  ·cases h
  ·next h2 =>
   rw [if_neg h1,if_neg h2]
   split at h
   ·next t ht =>
    obtain⟨T,e,hl⟩:=a57 (k:=root.Key) (show(D0 n l).foldl (Y2 (m5 a)) (some [root.Key])=some t from ht)
    refine⟨T,by rw [ht,e];rfl,by rw [hl];simp [D0],by rw [e];rfl⟩
   ·cases h
theorem b4u {g:Ring} {n:Int} {root:Epo} (h:a2c g n=some root):root.Number=n:=by
 have:=List.find?_some h;simpa using this
theorem a4b {α:Type} [Inhabited α] {l:List α} {i:Nat} (h:i < l.length):l.getD i default=l[i]:=by
 rw [List.getD_eq_getElem?_getD,List.getElem?_eq_getElem h];rfl
theorem b2C {a:D3} {g:Ring} {b:O4} {root:Epo} {T:List Tag} (he:a2c g b.C7=some root) (h:b5E a root.Key b T):a6c a g b=(⟨(a1G a T).1,T.getLastD default⟩,0):=by
 have hb:=a2s h.chk
 have hn:=b4u he
 have hr:J8 root.Number b.y7=true:=by have:=hb.num;unfold J8;simp;omega
 have ht:=b2B hr (List.all_eq_true.2 hb.cav) h.walk
 have hq:S1 b.Request=true:=by have:=hb.range;unfold L8 at this;simp only [Bool.and_eq_true] at this;exact this.1
 rw [b0Y h.chk he,b0Z ht]
 have hf:a1l (thE a b T) b.j7.length=0:=a7O.2 fun i hi=>by
  unfold thE
  rw [a4b hi]
  split
  ·next h3=>exact(a7P hq).2 (h.a5E i hi h3)
  ·rfl
 rw [if_neg (by rw [a9Z.2 h.nodes];unfold a0p;rw [if_pos hq,h.proof];simp),if_neg (by rw [hf];simp),if_neg (by rw [h.extra];decide)]
theorem b6K {a:D3} {g:Ring} {b:O4} (h:(a6c a g b).2=0):∃ root T,a2c g b.C7=some root∧b5E a root.Key b T:=by
 unfold a6c at h
 split at h
 ·next h1=>exact absurd h h1
 ·next h1 =>
  have hc:K3 b=0:=by simpa using h1
  have hb:=a2s hc
  have hq:S1 b.Request=true:=by have:=hb.range;unfold L8 at this;simp only [Bool.and_eq_true] at this;exact this.1
  split at h
  ·cases h
  ·next root he =>
   unfold b4s at h
   split at h
   ·cases h
   ·next h2 =>
    obtain⟨T,hw,hl,ht⟩:=a80 (by simpa using h2)
    rw [ht] at h
    dsimp only at h
    split at h
    ·cases h
    ·next h3 =>
     simp only [not_or,Decidable.not_not] at h3
     split at h
     ·next h4=>exact absurd h h4
     ·next h4 =>
      split at h
      ·cases h
      ·next h5 =>
       have hp:=h3.1
       unfold a0p at hp
       rw [if_pos hq] at hp
       refine⟨root,T,he,hc,hw,hl,a9Z.1 h3.2,hp,fun i hi h6 => ?_,by simpa using h5⟩
       have:=a7O.1 (by simpa using h4) i hi
       unfold thE at this
       rw [a4b hi,if_pos h6] at this
       exact(a7P hq).1 this
theorem b1a {α:Type} (l:List α) (p:α→Bool):decide (0≤idx l p)=l.any p:=by
 rcases Bool.eq_false_or_eq_true (l.any p) with h|h
 ·rw [h]
  rw [List.any_eq_true] at h
  obtain⟨x,hx,hp⟩:=h
  have h2:=List.findIdx_lt_length_of_exists ⟨x,hx,hp⟩
  unfold idx;rw [if_pos h2];simp
 ·rw [h]
  rw [List.any_eq_false] at h
  rw [a3G fun j hj=>by simpa using h _ (List.getElem_mem hj)];rfl
theorem a81 (l:List Bnd) (p:Bnd→Bool):u1 gl prog 99 [.v l,.a8G prog p] (fun r=>r = .v (idx l p)):=by
 refine u1.jn func99 (by kernel_rfl) 19 rfl fun C hC hG => ?_
 refine .q 6 hG ?_
 refine .S0 0 a8 fun hl0 => ?_
 refine .q 6 hG ?_
 refine .E3 (α:=Nat) [(0,_),(1,_),(7,_)] (fun k R=>(8,.v (k:Int))::R) (fun k => []) (fun k=>k≤l.length∧∀ j (hj:j < l.length),j < k→p l[j]=false) (fun k=>l.length - k) (0) (.c2 a8 a8 (.cons a8 (.nil _))) ?_ (.c2 a8 a8 (.c2 a8 a8 (.nil _))) (a8) fun k hF => ?_
 ·simp
 obtain⟨h1,h2⟩:=hF
 refine .q 6 hG ⟨fun hc9 => ?_,fun hc9 => ?_⟩
 ·refine .q 13 hG ?_
  refine .ix (by omega) (by omega) ?_
  refine .q 1 hG ?_
  refine .p (.a4B a8 (.t a8) ?_)
  refine .q 1 hG ?_
  refine .cond (.t a8) (fun hc16 => ?_) (fun hc16 => ?_)
  ·refine .q 6 hG ?_
   refine .e1 a8 a8 ?_
   rw [a8P (by omega) (by simpa using hc16) h2]
  ·refine .q 2 hG ?_
   refine .ad (by omega) (by omega) ?_
   refine .q 2 hG ?_
   refine⟨k+1,.c2 rfl rfl (.c2 rfl rfl (.nil _)),rfl,?_,by omega⟩
   refine⟨by omega,fun j hj hjk => ?_⟩;rcases Nat.lt_or_ge j k with h|h;exact h2 j hj h;(obtain rfl:j=k:=by omega);simpa using hc16
 ·refine .q 3 hG ?_
  refine .p (.assign (.i a8) ?_)
  refine .q 2 hG ?_
  refine .e1 a8 a8 ?_
  rw [a3G fun j hj=>h2 j hj (by omega)]
theorem a1S (l:List Bnd) (p:Bnd→Bool):u1 gl prog 150 [.v l,.a8G prog p] (fun r=>r = .v (l.any p)):=by
 refine u1.jn func150 (by kernel_rfl) 9 rfl fun C hC hG => ?_
 refine .q 8 hG ?_
 refine .p (.o9 hG (a81 _ _) (.cons (.t a8) (.cons (.t a8) .nil)) ?_)
 refine .q 4 hG ?_
 refine .e1 a8 a8 ?_
 rw [b1a]
theorem b2D (l:List Pred) (p:Pred→Bool):u1 gl prog 210 [.v l,.a8G prog p] (fun r=>r = .v (idx l p)):=by
 refine u1.jn func210 (by kernel_rfl) 19 rfl fun C hC hG => ?_
 refine .q 6 hG ?_
 refine .S0 0 a8 fun hl0 => ?_
 refine .q 6 hG ?_
 refine .E3 (α:=Nat) [(0,_),(1,_),(7,_)] (fun k R=>(8,.v (k:Int))::R) (fun k => []) (fun k=>k≤l.length∧∀ j (hj:j < l.length),j < k→p l[j]=false) (fun k=>l.length - k) (0) (.c2 a8 a8 (.cons a8 (.nil _))) ?_ (.c2 a8 a8 (.c2 a8 a8 (.nil _))) (a8) fun k hF => ?_
 ·simp
 obtain⟨h1,h2⟩:=hF
 refine .q 6 hG ⟨fun hc9 => ?_,fun hc9 => ?_⟩
 ·refine .q 13 hG ?_
  refine .ix (by omega) (by omega) ?_
  refine .q 1 hG ?_
  refine .p (.a4B a8 (.t a8) ?_)
  refine .q 1 hG ?_
  refine .cond (.t a8) (fun hc16 => ?_) (fun hc16 => ?_)
  ·refine .q 6 hG ?_
   refine .e1 a8 a8 ?_
   rw [a8P (by omega) (by simpa using hc16) h2]
  ·refine .q 2 hG ?_
   refine .ad (by omega) (by omega) ?_
   refine .q 2 hG ?_
   refine⟨k+1,.c2 rfl rfl (.c2 rfl rfl (.nil _)),rfl,?_,by omega⟩
   refine⟨by omega,fun j hj hjk => ?_⟩;rcases Nat.lt_or_ge j k with h|h;exact h2 j hj h;(obtain rfl:j=k:=by omega);simpa using hc16
 ·refine .q 3 hG ?_
  refine .p (.assign (.i a8) ?_)
  refine .q 2 hG ?_
  refine .e1 a8 a8 ?_
  rw [a3G fun j hj=>h2 j hj (by omega)]
theorem a4U (l:List Pred) (p:Pred→Bool):u1 gl prog 189 [.v l,.a8G prog p] (fun r=>r = .v (l.any p)):=by
 refine u1.jn func189 (by kernel_rfl) 9 rfl fun C hC hG => ?_
 refine .q 8 hG ?_
 refine .p (.o9 hG (b2D _ _) (.cons (.t a8) (.cons (.t a8) .nil)) ?_)
 refine .q 4 hG ?_
 refine .e1 a8 a8 ?_
 rw [b1a]
theorem b4v (l:List Cav) (p:Cav→Bool):u1 gl prog 187 [.v l,.a8G prog p] (fun r=>r = .v (idx l p)):=by
 refine u1.jn func187 (by kernel_rfl) 19 rfl fun C hC hG => ?_
 refine .q 6 hG ?_
 refine .S0 0 a8 fun hl0 => ?_
 refine .q 6 hG ?_
 refine .E3 (α:=Nat) [(0,_),(1,_),(7,_)] (fun k R=>(8,.v (k:Int))::R) (fun k => []) (fun k=>k≤l.length∧∀ j (hj:j < l.length),j < k→p l[j]=false) (fun k=>l.length - k) (0) (.c2 a8 a8 (.cons a8 (.nil _))) ?_ (.c2 a8 a8 (.c2 a8 a8 (.nil _))) (a8) fun k hF => ?_
 ·simp
 obtain⟨h1,h2⟩:=hF
 refine .q 6 hG ⟨fun hc9 => ?_,fun hc9 => ?_⟩
 ·refine .q 13 hG ?_
  refine .ix (by omega) (by omega) ?_
  refine .q 1 hG ?_
  refine .p (.a4B a8 (.t a8) ?_)
  refine .q 1 hG ?_
  refine .cond (.t a8) (fun hc16 => ?_) (fun hc16 => ?_)
  ·refine .q 6 hG ?_
   refine .e1 a8 a8 ?_
   rw [a8P (by omega) (by simpa using hc16) h2]
  ·refine .q 2 hG ?_
   refine .ad (by omega) (by omega) ?_
   refine .q 2 hG ?_
   refine⟨k+1,.c2 rfl rfl (.c2 rfl rfl (.nil _)),rfl,?_,by omega⟩
   refine⟨by omega,fun j hj hjk => ?_⟩;rcases Nat.lt_or_ge j k with h|h;exact h2 j hj h;(obtain rfl:j=k:=by omega);simpa using hc16
 ·refine .q 3 hG ?_
  refine .p (.assign (.i a8) ?_)
  refine .q 2 hG ?_
  refine .e1 a8 a8 ?_
  rw [a3G fun j hj=>h2 j hj (by omega)]
theorem a9u (l:List Cav) (p:Cav→Bool):u1 gl prog 147 [.v l,.a8G prog p] (fun r=>r = .v (l.any p)):=by
 refine u1.jn func147 (by kernel_rfl) 9 rfl fun C hC hG => ?_
 refine .q 8 hG ?_
 refine .p (.o9 hG (b4v _ _) (.cons (.t a8) (.cons (.t a8) .nil)) ?_)
 refine .q 4 hG ?_
 refine .e1 a8 a8 ?_
 rw [b1a]
theorem c0v (n:Nat):decide ((8:Int) < (n:Int))=decide (8 < n):=decide_eq_decide.2 (by omega)
theorem b8K (n:Nat):decide ((64:Int) < (n:Int))=decide (64 < n):=decide_eq_decide.2 (by omega)
theorem c1m (n:Nat):decide ((n:Int) < 1)=decide (n < 1):=decide_eq_decide.2 (by omega)
theorem b2E (n:Nat):decide ((1024:Int) < (n:Int))=decide (1024 < n):=decide_eq_decide.2 (by omega)
theorem c2d (d:Bnd):u1 gl prog 186 [.v d] (fun r=>r = .v (a1Q d)):=by
 refine u1.jn func186 (by kernel_rfl) 7 rfl fun C hC hG => ?_
 refine .q 3 hG fun b1 => ?_
 refine .q 11 hG ?_
 refine .e1 a8 a8 ?_
 exact congrArg AV.v (c0v _)
theorem b8L (b:O4) (hl:b.j7.length≤1000000):u1 gl prog 146 [.v b] (fun r=>r = .v (S7 b)):=by
 refine u1.jn func146 (by kernel_rfl) 31 rfl fun C hC hG => ?_
 refine .q 3 hG fun b1 => ?_
 refine .q 3 hG ?_
 refine .A8 hC .z (.O5 1 a8 .z ?_)
 have hfl:=a0X b.j7
 refine .draw (by kernel_rfl) 9 [[],[(4,0)],[(5,1)],[],[(7,3)],[(8,4)],[(9,5)],[(6,2),(10,6)],[(11,7)]] a8 (by kernel_rfl) a8 ?_
 refine⟨_,j6.A9 p6.l3 (fun x=>x.j7) Z8 a8 (fun _=>a8) (.t a8) a8,?_⟩
 refine⟨_,j6.G9 b1T (.t a8) a8,?_⟩
 refine⟨_,j6.len underlying24 (.t a8) a8,?_⟩
 refine⟨_,j6.A9 p6.l3 (fun x=>x.j7) Z8 a8 (fun _=>a8) (.t a8) a8,?_⟩
 refine⟨_,j6.G9 b1T (.t a8) a8,?_⟩
 refine⟨_,j6.o9 hG (b2s _ hl) (.cons (.t a8) .nil) a8,?_⟩
 refine⟨_,j6.len underlying83 (.t a8) a8,?_⟩
 refine⟨_,j6.sub (.t a8) (.t a8) (by omega) (by omega) a8,?_⟩
 refine⟨_,j6.assign (.t a8) a8,?_⟩
 show D6 _ _ _ _ _ [] ((3,_)::(11,_)::(10,_)::(9,_)::(8,_)::(7,_)::(6,_)::(5,_)::(4,_)::_) _
 refine .q 20 hG ?_
 refine .go 26 a8 (.t a8) (fun hg29 => .o9 hG (a1S _ _) (.cons (.q a8 hg29) (.cons (.a9P hG (fun x=>c2d x)) .nil)) a8) ?_
 refine .q 4 hG ?_
 refine .e1 a8 a8 ?_
 refine congrArg AV.v ?_
 unfold S7 a1g
 rw [b8K,c0v]
theorem c2e (p:Pred):u1 gl prog 190 [.v p] (fun r=>r = .v (!A7 p)):=by
 refine u1.jn func190 (by kernel_rfl) 6 rfl fun C hC hG => ?_
 refine .q 3 hG fun b1 => ?_
 refine .q 5 hG ?_
 refine .k hG (a4L _) ?_
 refine .q 4 hG ?_
 refine .e1 a8 a8 ?_
 rfl
theorem b2F (d:Bnd):u1 gl prog 151 [.v d] (fun r=>r = .v (a3p d)):=by
 refine u1.jn func151 (by kernel_rfl) 18 rfl fun C hC hG => ?_
 refine .q 3 hG fun b1 => ?_
 refine .q 17 hG ?_
 refine .go 13 a8 (.t a8) (fun hg16 => .o9 hG (a4U _ _) (.cons (.q a8 hg16) (.cons (.a9P hG (fun x=>c2e x)) .nil)) a8) ?_
 refine .q 4 hG ?_
 refine .e1 a8 a8 ?_
 refine congrArg AV.v ?_
 unfold a3p
 rw [c1m,b2E]
theorem b8M (p:Pred):u1 gl prog 191 [.v p] (fun r=>r = .v (decide (p.Kind=7))):=by
 refine u1.jn func191 (by kernel_rfl) 6 rfl fun C hC hG => ?_
 refine .q 3 hG fun b1 => ?_
 refine .q 10 hG ?_
 refine .e1 a8 a8 ?_
 rfl
theorem c0w (d:Bnd):u1 gl prog 152 [.v d] (fun r=>r = .v (a3J d)):=by
 refine u1.jn func152 (by kernel_rfl) 6 rfl fun C hC hG => ?_
 refine .q 3 hG fun b1 => ?_
 refine .q 6 hG ?_
 refine .p (.o9 hG (a4U _ _) (.cons (.t a8) (.cons (.a9P hG (fun x=>b8M x)) .nil)) ?_)
 refine .q 3 hG ?_
 refine .e1 a8 a8 ?_
 rfl
theorem b8N (x d:Bnd):u1 gl prog 192 [.v x,.p d] (fun r=>r = .v (decide (x.j9=d.j9))):=by
 refine u1.jn func192 (by kernel_rfl) 9 rfl fun C hC hG => ?_
 refine .q 3 hG fun b2 => ?_
 refine .q 8 hG ?_
 refine .p (.o9 hG (a1c _ _) (.cons (.t a8) (.cons (.t a8) .nil)) ?_)
 refine .q 3 hG ?_
 refine .e1 a8 a8 ?_
 rfl
theorem b1b {l:List Bnd} {k:Nat} (h:k≤l.length) (h2:V3 l k=true):a3q l=true:=by
 unfold a3q V3 at *
 rw [List.any_eq_true] at h2 ⊢
 obtain⟨i,hi,h3⟩:=h2
 exact⟨i,List.mem_range.2 (by have:=List.mem_range.1 hi;omega),h3⟩
theorem c0x (l:List Bnd):u1 gl prog 153 [.v l] (fun r=>r = .v (a3q l)):=by
 refine u1.jn func153 (by kernel_rfl) 18 rfl fun C hC hG => ?_
 refine .q 6 hG ?_
 refine .S0 0 a8 fun hl0 => ?_
 refine .q 6 hG ?_
 refine .E3 (α:=Nat) [(0,_),(5,_),(6,_)] (fun k R=>(7,.v (k:Int))::R) (fun k => []) (fun k=>k≤l.length∧V3 l k=false) (fun k=>l.length - k) (0) (.c2 a8 a8 (.cons a8 (.nil _))) ?_ (.c2 a8 a8 (.c2 a8 a8 (.nil _))) (a8) fun k hF => ?_
 ·exact⟨Nat.zero_le _,a8⟩
 obtain⟨h1,h2⟩:=hF
 refine .q 6 hG ⟨fun hc8 => ?_,fun hc8 => ?_⟩
 ·refine .q 6 hG ?_
  refine .ix (by omega) (by omega) ?_
  refine .q 2 hG fun b4 => ?_
  refine .q 4 hG ?_
  refine .A8 hC .z (.O5 4 a8 .z (.drop ?_))
  refine .q 3 hG ?_
  refine .p (.b6g Z1 underlying27 (.t a8) (.t a8) (by omega) (by omega) (.p (.b0z hG (fun x=>b8N x _) (.cons (.t a8) .nil) (.p (.o9 hG (a1S _ _) (.cons (.t a8) (.cons (.t a8) .nil)) ?_)))))
  refine .q 1 hG ?_
  refine .cond (.t a8) (fun hc16 => ?_) (fun hc16 => ?_)
  ·refine .q 5 hG ?_
   refine .e1 a8 a8 ?_
   rw [b1b (k:=k+1) (by omega) (by rw [a38 l k (by omega)];exact Bool.or_eq_true_iff.2 (Or.inr hc16))]
  ·refine .q 2 hG ?_
   refine .ad (by omega) (by omega) ?_
   refine .q 2 hG ?_
   refine⟨k+1,.c2 rfl rfl (.c2 rfl rfl (.nil _)),rfl,?_,by omega⟩
   exact⟨by omega,by rw [a38 l k (by omega),h2];exact hc16⟩
 ·refine .q 6 hG ?_
  refine .e1 a8 a8 ?_
  obtain rfl:k=l.length:=by omega
  exact congrArg AV.v h2.symm
theorem b8O (c:Cav):u1 gl prog 148 [.v c] (fun r=>r = .v (!H5 c)):=by
 refine u1.jn func148 (by kernel_rfl) 6 rfl fun C hC hG => ?_
 refine .q 3 hG fun b1 => ?_
 refine .q 5 hG ?_
 refine .k hG (a8V _) ?_
 refine .q 4 hG ?_
 refine .e1 a8 a8 ?_
 rfl
theorem b2G {b:O4} (h:(!S1 b.Request||decide (b.C7 < 1)||decide (1000 < b.C7)||decide (b.y7 < 1)||decide (1073741824 < b.y7))=true):L8 b=false:=by
 simp only [Bool.or_eq_true,Bool.not_eq_true',decide_eq_true_eq] at h
 unfold L8
 rcases h with (((h|h)|h)|h)|h
 ·rw [h];rfl
 all_goals (cases S1 b.Request<;>simp<;>omega)
theorem a0Y {b:O4} (h:(!S1 b.Request||decide (b.C7 < 1)||decide (1000 < b.C7)||decide (b.y7 < 1)||decide (1073741824 < b.y7))=false):L8 b=true:=by
 simp only [Bool.or_eq_false_iff,Bool.not_eq_false',decide_eq_false_iff_not] at h
 unfold L8
 rw [h.1.1.1.1];simp;omega
theorem c0y (b:O4) (hl:b.j7.length≤1000000):u1 gl prog 87 [.v b] (fun r=>r = .v (F7 b)):=by
 refine u1.jn func87 (by kernel_rfl) 48 rfl fun C hC hG => ?_
 refine .q 3 hG fun b1 => ?_
 refine .q 5 hG ?_
 refine .A8 hC .z (.O5 1 a8 .z ?_)
 refine .q 3 hG ?_
 refine .k hG (b4k _) ?_
 refine .q 23 hG ?_
 refine .cond (.t a8) (fun hc3 => ?_) (fun hc3 => ?_)
 ·refine .q 5 hG ?_
  refine .e1 a8 a8 ?_
  unfold F7
  rw [if_pos (b2G hc3)]
 ·refine .q 3 hG ?_
  refine .k hG (b8L _ hl) ?_
  refine .q 2 hG ?_
  refine .cond (.t a8) (fun hc28 => ?_) (fun hc28 => ?_)
  ·refine .q 5 hG ?_
   refine .e1 a8 a8 ?_
   unfold F7
   rw [if_neg (by rw [a0Y hc3];decide),if_pos hc28]
  ·refine .q 4 hG ?_
   refine .p (.o9 hG (a9u _ _) (.cons (.t a8) (.cons (.a9P hG (fun x=>b8O x)) .nil)) ?_)
   refine .q 3 hG ?_
   refine .go 35 a8 (.t a8) (fun hg38 => .o9 hG (a1S _ _) (.cons (.q a8 hg38) (.cons (.a9P hG (fun x=>b2F x)) .nil)) a8) ?_
   refine .q 3 hG ?_
   refine .cond (.t a8) (fun hc31 => ?_) (fun hc31 => ?_)
   ·refine .q 5 hG ?_
    refine .e1 a8 a8 ?_
    unfold F7
    rw [if_neg (by rw [a0Y hc3];decide),if_neg (by rw [hc28];decide),if_pos hc31]
   ·refine .q 4 hG ?_
    refine .p (.o9 hG (a1S _ _) (.cons (.t a8) (.cons (.a9P hG (fun x=>c0w x)) .nil)) ?_)
    refine .q 2 hG ?_
    refine .cond (.t a8) (fun hc40 => ?_) (fun hc40 => ?_)
    ·refine .q 5 hG ?_
     refine .e1 a8 a8 ?_
     unfold F7
     rw [if_neg (by rw [a0Y hc3];decide),if_neg (by rw [hc28];decide),if_neg (by rw [hc31];decide),if_pos hc40]
    ·refine .q 4 hG ?_
     refine .k hG (c0x _) ?_
     refine .q 2 hG ?_
     refine .cond (.t a8) (fun hc44 => ?_) (fun hc44 => ?_)
     ·refine .q 5 hG ?_
      refine .e1 a8 a8 ?_
      unfold F7
      rw [if_neg (by rw [a0Y hc3];decide),if_neg (by rw [hc28];decide),if_neg (by rw [hc31];decide),if_neg (by rw [hc40];decide),if_pos hc44]
     ·refine .q 6 hG ?_
      refine .e1 a8 a8 ?_
      unfold F7
      rw [if_neg (by rw [a0Y hc3];decide),if_neg (by rw [hc28];decide),if_neg (by rw [hc31];decide),if_neg (by rw [hc40];decide),if_neg (by rw [hc44];decide)]
theorem a7b (b:List UInt8) (l:List Int) (hb:b.length≤600000) (hl:0 < l.length) (hl2:l.length≤1000) (h:∀ n∈l,0≤n∧n≤281474976710656):F5 gl prog 154 [.v b,.v l] [] (fun r Hs=>∃ u,r = .raw u∧Hs = [.own 5 u (b++numsL l)]):=by
 refine F5.Q4 func154 rfl (by kernel_rfl) 21 rfl rfl _ rfl _ rfl fun C hC hG => ?_
 refine .q 6 hG ?_
 refine .name 0 a8 fun w0=>(.C4 5 .z ?_)
 refine .q 6 hG ?_
 refine .E3 (α:=Nat×Value×List UInt8×Bool) [(7,_),(8,_)] (fun x R=>(0,.raw x.2.1)::(9,.v (x.1:Int))::R) (fun x => [(true,.usr x.2.1 (OF.mk 5 x.2.2.1 x.2.2.2))]) (fun x=>x.1≤l.length∧x.2.2.1=b++numsL (l.take x.1)∧(0 < x.1→x.2.2.2=true)) (fun x=>l.length - x.1) ((0,w0,b,false)) (.c2 a8 a8 (.nil _)) ?_ (.c2 a8 a8 (.c2 a8 a8 (.nil _))) (a8) fun x hF => ?_
 ·exact⟨Nat.zero_le _,by simp [numsL],by simp⟩
 obtain⟨k,w,c,o⟩:=x
 obtain⟨h1,h2,h3⟩:=hF
 dsimp only at h1 h2 h3 ⊢
 have hlen9:=a1D (l.take k) (fun n hn=>h n (List.mem_of_mem_take hn))
 have hc9:c.length≤607000:=(by rw [h2,List.length_append];have:(l.take k).length≤l.length:=(by simp<;>omega);omega)
 refine .q 6 hG ⟨fun hc10 => ?_,fun hc10 => ?_⟩
 ·refine .q 5 hG ?_
  refine .ix (by omega) (by omega) ?_
  refine .q 3 hG ?_
  refine .c1i hC .z (.as 0 a8 .z (.drop ?_))
  refine .q 3 hG ?_
  refine .h (.a08 hG (a1B _ _ (by simp<;>omega) (h _ (List.getElem_mem _)).1 (h _ (List.getElem_mem _)).2) (.cons (.t a8) (.cons (.t a8) .nil)) fun r16 Hs16 hr16 => ?_)
  obtain⟨u16,rfl,rfl⟩:=hr16
  show D6 _ _ _ _ _ _ _ ((true,_)::_)
  refine .q 5 hG ?_
  refine .c1g .z ?_
  refine .q 1 hG ?_
  refine .ad (by omega) (by omega) ?_
  refine .q 2 hG ?_
  refine⟨(k+1,u16,_,true),.c2 rfl rfl (.c2 rfl rfl (.nil _)),rfl,?_,by dsimp only;omega⟩
  exact⟨by dsimp only;omega,by dsimp only;rw [a52 l k (by omega),←List.append_assoc,←h2];rfl,fun _=>rfl⟩
 ·refine .q 2 hG ?_
  refine .c1h (h3 (by omega)) .z ?_
  refine .q 5 hG ?_
  refine .e1 a8 a8 ?_
  refine⟨_,.cons .z (.nil),?_⟩
  exact⟨_,rfl,by rw [h2,List.take_of_length_le (by omega)]⟩
theorem b4w (u:Value) (b:List UInt8) (l:List Pred) (hb:b.length≤600000) (hl:l.length≤8) (h:∀ p∈l,A7 p=true):F5 gl prog 157 [.raw u,.v l] [.own 5 u b] (fun r Hs=>∃ w,r = .raw w∧Hs = [.own 5 w (b++T5 u6 l)]):=by
 refine F5.Q4 func157 rfl (by kernel_rfl) 25 rfl rfl _ rfl _ rfl fun C hC hG => ?_
 refine .q 12 hG ?_
 refine .E3 (α:=Nat×Value) [(9,_),(10,_)] (fun x R=>(0,.raw x.2)::(11,.v (x.1:Int))::R) (fun x => [(false,.own 5 x.2 (b++T5 u6 (l.take x.1)))]) (fun x=>x.1≤l.length) (fun x=>l.length - x.1) ((0,u)) (.c2 a8 a8 (.nil _)) ?_ (.c2 a8 a8 (.c2 a8 a8 (.nil _))) (congrArg (fun q => [(false,E4.own _ _ q)]) (by simp [T5])) fun x hF => ?_
 ·simp
 obtain⟨k,w⟩:=x
 dsimp only at hF ⊢
 have hcl:=a2r u6 l 24 k (fun p hp=>H7 (K6 (h p hp)))
 refine .q 6 hG ⟨fun hc12 => ?_,fun hc12 => ?_⟩
 ·refine .q 5 hG ?_
  refine .ix (by omega) (by omega) ?_
  refine .q 2 hG fun b6 => ?_
  refine .q 3 hG ?_
  refine .A8 hC .z (.O5 6 a8 .z (.drop ?_))
  refine .q 2 hG ?_
  refine .k hG (a65 _) ?_
  refine .q 6 hG ?_
  have hpo:=h l[k] (List.getElem_mem _)
  have hpl:=a19 l[k]
  refine .q 3 hG ?_
  refine .h (.b5y P4 (.inl ⟨_,underlying86⟩) a8 .z (.v (.t a8)) (by simp<;>omega) (by simp<;>omega) fun w22 => ?_)
  refine .q 3 hG ?_
  refine .ad (by omega) (by omega) ?_
  refine .q 2 hG ?_
  refine⟨(k+1,_),.c2 rfl rfl (.c2 rfl rfl (.nil _)),congrArg (fun q => [(false,E4.own _ _ q)]) (by show b++T5 u6 (l.take k)++(V1 l[k]).1=b++T5 u6 (l.take (k+1));rw [a1E u6 l k (by omega),y3 hpo];simp),?_,by dsimp only;omega⟩
  omega
 ·refine .q 7 hG ?_
  refine .e1 a8 a8 ?_
  refine⟨_,.cons .z (.nil),?_⟩
  exact⟨_,rfl,by rw [List.take_of_length_le (by omega)]⟩
theorem b6L (u:Value) (b:List UInt8) (l:List Cav) (hb:b.length≤600000) (hl:l.length≤64) (h:∀ c∈l,H5 c=true):F5 gl prog 155 [.raw u,.v l] [.own 5 u b] (fun r Hs=>∃ w,r = .raw w∧Hs = [.own 5 w (b++T5 D9 l)]):=by
 refine F5.Q4 func155 rfl (by kernel_rfl) 25 rfl rfl _ rfl _ rfl fun C hC hG => ?_
 refine .q 12 hG ?_
 refine .E3 (α:=Nat×Value) [(9,_),(10,_)] (fun x R=>(0,.raw x.2)::(11,.v (x.1:Int))::R) (fun x => [(false,.own 5 x.2 (b++T5 D9 (l.take x.1)))]) (fun x=>x.1≤l.length) (fun x=>l.length - x.1) ((0,u)) (.c2 a8 a8 (.nil _)) ?_ (.c2 a8 a8 (.c2 a8 a8 (.nil _))) (congrArg (fun q => [(false,E4.own _ _ q)]) (by simp [T5])) fun x hF => ?_
 ·simp
 obtain⟨k,w⟩:=x
 dsimp only at hF ⊢
 have hcl:=a2r D9 l 2100 k (fun p hp=>a2l (h p hp))
 refine .q 6 hG ⟨fun hc12 => ?_,fun hc12 => ?_⟩
 ·refine .q 5 hG ?_
  refine .ix (by omega) (by omega) ?_
  refine .q 2 hG fun b6 => ?_
  refine .q 3 hG ?_
  refine .A8 hC .z (.O5 6 a8 .z (.drop ?_))
  refine .q 2 hG ?_
  refine .k hG (b2u _) ?_
  refine .q 6 hG ?_
  have hco:=h l[k] (List.getElem_mem _)
  have hcl2:=a4a l[k]
  refine .q 3 hG ?_
  refine .h (.b5y P4 (.inl ⟨_,underlying86⟩) a8 .z (.v (.t a8)) (by simp<;>omega) (by simp<;>omega) fun w22 => ?_)
  refine .q 3 hG ?_
  refine .ad (by omega) (by omega) ?_
  refine .q 2 hG ?_
  refine⟨(k+1,_),.c2 rfl rfl (.c2 rfl rfl (.nil _)),congrArg (fun q => [(false,E4.own _ _ q)]) (by show b++T5 D9 (l.take k)++(X5 l[k]).1=b++T5 D9 (l.take (k+1));rw [a1E D9 l k (by omega),a1I hco];simp),?_,by dsimp only;omega⟩
  omega
 ·refine .q 7 hG ?_
  refine .e1 a8 a8 ?_
  refine⟨_,.cons .z (.nil),?_⟩
  exact⟨_,rfl,by rw [List.take_of_length_le (by omega)]⟩
def a3c (b:O4):List UInt8:=numsL [1,b.Request.Gate,b.Request.E5,b.C7,b.y7,b.j7.length]++T5 D9 b.j7++b.Proof.l
structure c2f (b:O4):Prop where
 nums:∀ n ∈ [1,b.Request.Gate,b.Request.E5,b.C7,b.y7,(b.j7.length:Int)],0≤n∧n≤281474976710656
 l0:(numsL [1,b.Request.Gate,b.Request.E5,b.C7,b.y7,b.j7.length]).length≤42
 l1:(T5 D9 b.j7).length≤134400
 l2:(a3c b).length≤134474
theorem b8P {b:O4} (h:a7G b):c2f b:=by
 have h1:=h.rq
 have h2:=h.num
 have h3:=h.a4N
 have hn:∀ n ∈ [1,b.Request.Gate,b.Request.E5,b.C7,b.y7,(b.j7.length:Int)],0≤n∧n≤281474976710656:=by simp;omega
 have l0:=a1D _ hn
 have l1:=a18 D9 b.j7 2100 fun c hc=>a2l (h.cav c hc)
 have l1':(T5 D9 b.j7).length≤134400:=by omega
 exact⟨hn,l0,l1',by unfold a3c;rw [List.length_append,List.length_append,J0.len];simp only [List.length_cons,List.length_nil] at l0;omega⟩
structure c3z (d:Bnd):Prop where
 a74:d.l8.length≤8
 tick:1≤d.j9.length∧d.j9.length≤1024
 con:∀ p∈d.l8,A7 p=true
 len:(K7 d).length≤1400
 lf:(a0w d.j9).length≤1031
 ln:(J7 d.l8.length).length≤7
 lt:(J7 d.j9.length).length≤7
theorem b5F {b:O4} (h:a7G b) {d:Bnd} (hd:d∈b.j3):c3z d :=
 ⟨h.a74 d hd,h.tick d hd,h.con d hd,b0R (h.a74 d hd) (h.tick d hd).2 (h.con d hd),a1F (h.tick d hd).2,B2 (by have:=h.a74 d hd;omega),B2 (by have:=h.tick d hd;omega)⟩
theorem b6M (b:O4) (h:a7G b):u1 gl prog 88 [.v b] (fun r=>r = .v (a1j b)):=by
 have hh:=b8P h
 have hnd:=h.c3u
 refine u1.jn func88 (by kernel_rfl) 63 rfl fun C hC hG => ?_
 refine .q 3 hG fun b1 => ?_
 refine .q 3 hG ?_
 refine .A8 hC .z (.O5 1 a8 .z ?_)
 refine .q 14 hG ?_
 refine .bs a8 (by decide) fun b19=>(.u0 hC .z (.as 19 a8 .z (.h (.a08 hG (a7b _ _ (by decide) (by simp) (by simp) hh.nums) (.cons .b3x (.cons (.t a8) .nil)) fun r20 Hs20 hr20 => ?_))))
 obtain⟨u20,rfl,rfl⟩:=hr20
 show D6 _ _ _ _ _ _ _ ((true,_)::_)
 refine .q 3 hG ?_
 have hq0:=hh.l0
 have hq1:=hh.l1
 refine .E0 [j0,j1,j1] (by kernel_rfl) 8 [[],[],[(22,1)],[(21,0),(23,2)],[],[(25,4)],[(24,3),(26,5)],[(27,6)]] [3,6,7] a8 (by kernel_rfl) a8 (by kernel_rfl) (by decide) ?_
 refine⟨_,fun H=>j6.move (.t a8) a8,?_⟩
 refine⟨_,fun H=>j6.A9 p6.l3 (fun x=>x.j7) Z8 a8 (fun _=>a8) (.t a8) a8,?_⟩
 refine⟨_,fun H=>j6.G9 b1T (.t a8) a8,?_⟩
 refine .inl ?_
 refine⟨_,fun H=>j6.A9 p6.l4 (fun x=>x.Proof) a8u a8 (fun _=>a8) (.t a8) a8,?_⟩
 refine⟨_,fun H=>j6.P0 (by decide) O1 (.t a8) a8,?_⟩
 refine .inl (.inl ?_)
 refine⟨⟨([],j2 [_,c8,c8]),a8⟩,?_⟩
 refine A6.C6 hG (b6L _ _ _ (by simp;have:=hh.l0;simp at *;omega) h.a4N h.cav) .z (.cons (.t rfl) (.cons (.t rfl) .nil)) (by rintro _ _ ⟨_,_,rfl⟩;exact⟨_,rfl⟩) fun r24 B24 hr24 => ?_
 obtain⟨u24,rfl,hB⟩:=hr24
 cases hB
 refine⟨⟨([],j2 [_,c8,c8]),a8⟩,?_⟩
 refine A6.append P4 (.inl ⟨_,underlying86⟩) rfl .z (.v (.t rfl)) (by simp<;>omega) (by simp<;>omega) (fun w27 => ?_) rfl
 refine⟨⟨([],j2 [_,c8,c8]),a8⟩,?_⟩
 refine A6.ofP (j6.assign (.t rfl) ?_)
 refine⟨⟨([],j2 [_,c8,c8]),a8⟩,?_⟩
 show D6 _ _ _ _ _ [] ((3,_)::(27,_)::(26,_)::(25,_)::(24,_)::(23,_)::(22,_)::(21,_)::_) _
 refine .q 2 hG ?_
 refine .u0 hC .z (.as 3 a8 .z ?_)
 refine .q 5 hG ?_
 refine .bs a8 (by decide) fun b32=>(.u0 hC .z (.as 32 a8 .z (.h (.a08 hG (a7b _ _ (by simp<;>omega) (by simp) (by simp) (by simp<;>omega)) (.cons (.t a8) (.cons (.t a8) .nil)) fun r33 Hs33 hr33 => ?_))))
 obtain⟨u33,rfl,rfl⟩:=hr33
 show D6 _ _ _ _ _ _ _ ((true,_)::_)
 refine .q 4 hG ?_
 refine .del (.s .z) (.del (.s .z) (.del (.s .z) (.del (.s .z) ?_)))
 refine .q 7 hG ?_
 refine .E3 (α:=Nat×Value) [(35,_),(36,_)] (fun x R=>(3,.raw x.2)::(37,.v (x.1:Int))::R) (fun x => [(true,.own 5 x.2 (a3c b++J7 b.j3.length++T5 K7 (b.j3.take x.1)))]) (fun x=>x.1≤b.j3.length) (fun x=>b.j3.length - x.1) ((0,u33)) (.c2 a8 a8 (.nil _)) ?_ (.c2 a8 a8 (.c2 a8 a8 (.nil _))) (congrArg (fun q => [(true,E4.own _ _ q)]) (by simp [a3c,numsL,T5])) fun x hF => ?_
 ·simp
 obtain⟨k,w⟩:=x
 dsimp only at hF ⊢
 have hcl:=a2r K7 b.j3 1400 k (fun d hd=>(b5F h hd).len)
 refine .q 6 hG ⟨fun hc38 => ?_,fun hc38 => ?_⟩
 ·refine .q 5 hG ?_
  refine .ix (by omega) (by omega) ?_
  refine .q 2 hG fun b5 => ?_
  refine .q 3 hG ?_
  have hdd:=b5F h (List.getElem_mem (show k < b.j3.length by omega))
  have hh2:=hh.l2
  have q1:=hdd.a74
  have q2:=hdd.tick
  have q3:=hdd.lt
  have q4:=hdd.ln
  have q6:(numsL [(b.j3[k].l8.length:Int)]).length≤7:=a1D [_] (by simp<;>omega)
  have q5:=a18 u6 b.j3[k].l8 24 (fun p hp=>H7 (K6 (hdd.con p hp)))
  have hnl:=B2 (n:=b.j3.length) (by omega)
  refine .A8 hC .z (.O5 5 a8 .z (.u0 hC .z1 (.as 3 a8 .z1 (.del .z (.del .z ?_)))))
  refine .q 4 hG ?_
  refine .h (.a08 hG (a9O _ _ (by simp<;>omega) hdd.tick.2) (.cons (.t a8) (.cons (.t a8) .nil)) fun r45 Hs45 hr45 => ?_)
  obtain⟨u45,rfl,rfl⟩:=hr45
  show D6 _ _ _ _ _ _ _ ((true,_)::_)
  refine .q 6 hG ?_
  refine .u0 hC .z (.as 3 a8 .z (.del .z (.a7x (by kernel_rfl) 10 [[],[],[(49,1)],[(50,2)],[(51,3)],[(48,0),(52,4)],[],[(54,6)],[(53,5),(55,7)],[(56,8)]] [4,5,8,9] a8 (by kernel_rfl) a8 (by kernel_rfl) (by decide) ?_)))
  refine⟨_,fun H=>j6.move (.t a8) a8,?_⟩
  refine⟨_,fun H=>j6.A9 p8.l1 (fun x=>x.l8) a5O a8 (fun _=>a8) (.t a8) a8,?_⟩
  refine⟨_,fun H=>j6.G9 a8L (.t a8) a8,?_⟩
  refine⟨_,fun H=>j6.len underlying83 (.t a8) a8,?_⟩
  refine .inl (.inl ?_)
  refine⟨_,fun H=>j6.A9 p8.l1 (fun x=>x.l8) a5O a8 (fun _=>a8) (.t a8) a8,?_⟩
  refine⟨_,fun H=>j6.G9 a8L (.t a8) a8,?_⟩
  refine .inl (.inl ?_)
  refine A6.buildSlice (α:=Int) R3 underlying33 (.cons (.t rfl) .nil) rfl (by decide) fun b52 => ?_
  refine A6.u0 hC .z (A6.as 52 rfl .z (A6.a08 hG (a7b _ _ (by simp<;>omega) (by simp) (by simp) (by simp<;>omega)) (.cons (.t rfl) (.cons (.t rfl) .nil)) fun r53 Hs53 hr53 => ?_))
  obtain⟨u53,rfl,rfl⟩:=hr53
  refine A6.C6 hG (b4w _ _ _ (by simp<;>omega) hdd.a74 hdd.con) .z (.cons (.t rfl) (.cons (.t rfl) .nil)) (by rintro _ _ ⟨_,_,rfl⟩;exact⟨_,rfl⟩) fun r56 B56 hr56 => ?_
  obtain⟨u56,rfl,hB⟩:=hr56
  cases hB
  refine A6.ofP (j6.assign (.t rfl) ?_)
  show D6 _ _ _ _ _ [] ((3,_)::(56,_)::(55,_)::(54,_)::(53,_)::(52,_)::(51,_)::(50,_)::(49,_)::(48,_)::_) _
  refine .q 1 hG ?_
  refine .del (.s .z) ?_
  refine .q 3 hG ?_
  refine .p (.P0 (by decide) O1 (.t a8) ?_)
  refine .ap (by simp<;>omega) (by simp<;>omega) fun w60 => ?_
  refine .q 3 hG ?_
  refine .ad (by omega) (by omega) ?_
  refine .q 2 hG ?_
  refine⟨(k+1,_),.c2 rfl rfl (.c2 rfl rfl (.nil _)),congrArg (fun q => [(true,E4.own _ _ q)]) (by show _=a3c b++J7 b.j3.length++T5 K7 (b.j3.take (k+1));rw [a1E K7 b.j3 k (by omega)];simp [K7,a0w,numsL]),?_,by dsimp only;omega⟩
  omega
 ·refine .q 2 hG ?_
  refine .u0 hC .z (.as 3 a8 .z ?_)
  refine .q 5 hG ?_
  refine .e1 a8 a8 ?_
  refine congrArg AV.v ?_
  rw [List.take_of_length_le (by omega)];unfold a1j a3c;simp
theorem a0r {b:O4} (h:F7 b≠0):K3 b=F7 b:=by unfold K3;rw [if_pos h]
theorem a7Q {b:O4} (h:F7 b=0) (h2:4096 < (a1j b).length):K3 b=2:=by unfold K3;rw [if_neg (by simpa using h),if_pos h2]
theorem a7R {b:O4} (h:F7 b=0) (h2:¬4096 < (a1j b).length):K3 b=0:=by unfold K3;rw [if_neg (by simpa using h),if_neg h2]
theorem c0z (b:O4) (hl:b.j7.length≤1000000):u1 gl prog 35 [.v b] (fun r=>r = .v (K3 b)):=by
 refine u1.jn func35 (by kernel_rfl) 13 rfl fun C hC hG => ?_
 refine .q 3 hG fun b1 => ?_
 refine .q 4 hG ?_
 refine .A8 hC .z (.O5 1 a8 .z ?_)
 refine .q 2 hG ?_
 refine .k hG (c0y _ hl) ?_
 refine .q 8 hG ⟨fun hc7 => ?_,fun hc7 => ?_⟩
 ·refine .q 6 hG ?_
  refine .e1 a8 a8 ?_
  rw [a0r hc7]
 ·refine .q 3 hG ?_
  have h0:F7 b=0:=Decidable.not_not.1 hc7
  refine .q 2 hG ?_
  refine .k hG (b6M _ (a4O h0)) ?_
  refine .q 4 hG ⟨fun hc12 => ?_,fun hc12 => ?_⟩
  ·refine .q 5 hG ?_
   refine .e1 a8 a8 ?_
   rw [a7Q h0 (by omega)]
  ·refine .q 6 hG ?_
   refine .e1 a8 a8 ?_
   rw [a7R h0 (by omega)]
theorem b8Q (l:List Int) : [1]++numsL l=numsL (1::l):=by
 show [1]++numsL l=(J7 1::l.map fun n=>J7 n.toNat).flatten
 rw [List.flatten_cons,a2k (by decide)];rfl
theorem b8R (b:O4) (h:a7G b):u1 gl prog 108 [.v b] (fun r=>r = .v (a1j b)):=by
 have hh:=b8P h
 have hnd:=h.c3u
 have hnc:=h.a4N
 have hq0:=hh.l0
 have hq1:=hh.l1
 have hh2:=hh.l2
 have hnl:=B2 (n:=b.j3.length) (by omega)
 have hb5:∀ n ∈ [b.Request.Gate,b.Request.E5,b.C7,b.y7,(b.j7.length:Int)],0≤n∧n≤281474976710656:=fun n hn=>hh.nums n (List.mem_cons_of_mem _ hn)
 have hl5 : [b.Request.Gate,b.Request.E5,b.C7,b.y7,(b.j7.length:Int)].length=5:=rfl
 refine u1.jn func108 (by kernel_rfl) 116 rfl fun C hC hG => ?_
 refine .q 3 hG fun b1 => ?_
 refine .q 3 hG ?_
 refine .A8 hC .z (.O5 1 a8 .z ?_)
 refine .q 1 hG ?_
 refine .bs a8 (by decide) fun b14 => ?_
 refine .q 17 hG ?_
 refine .bs a8 (by decide) fun b28 => ?_
 refine .q 4 hG ?_
 refine .u0 hC .z (.as 4 a8 .z (.del .z (.del (.s .z) ?_)))
 refine .q 4 hG ?_
 refine .E3 (α:=Nat×Value) [(1,_),(4,_)] (fun x R=>(3,.raw x.2)::(5,.v (x.1:Int))::R) (fun x => [(true,.own 5 x.2 ([1]++numsL ([b.Request.Gate,b.Request.E5,b.C7,b.y7,(b.j7.length:Int)].take x.1)))]) (fun x=>x.1≤5) (fun x=>5 - x.1) ((0,slc b14 0 1 1)) (.c2 a8 a8 (.nil _)) ?_ (.c2 a8 a8 (.c2 a8 a8 (.nil _))) (congrArg (fun q => [(true,E4.own _ _ q)]) (by simp [numsL])) fun x hF => ?_
 ·simp
 obtain⟨k,w⟩:=x
 dsimp only at hF ⊢
 have hcl:=a1D ([b.Request.Gate,b.Request.E5,b.C7,b.y7,(b.j7.length:Int)].take k) (fun n hn=>hb5 n (List.mem_of_mem_take hn))
 have hcl2:([b.Request.Gate,b.Request.E5,b.C7,b.y7,(b.j7.length:Int)].take k).length≤5:=(by simp<;>omega)
 refine .q 9 hG ⟨fun hc32 => ?_,fun hc32 => ?_⟩
 ·refine .q 3 hG ?_
  have hn7:=B2 (n:=([b.Request.Gate,b.Request.E5,b.C7,b.y7,(b.j7.length:Int)][k]).toNat) (by have:=hb5 _ (List.getElem_mem (show k < [b.Request.Gate,b.Request.E5,b.C7,b.y7,(b.j7.length:Int)].length by simp;omega));omega)
  refine .q 4 hG ?_
  refine .ix (by omega) (by omega) ?_
  refine .q 1 hG ?_
  refine .k hG (F4 _ (hb5 _ (List.getElem_mem _)).1 (hb5 _ (List.getElem_mem _)).2) ?_
  refine .ap (by simp<;>omega) (by simp<;>omega) fun w41 => ?_
  refine .q 4 hG ?_
  refine .ad (by omega) (by omega) ?_
  refine .q 2 hG ?_
  refine⟨(k+1,_),.c2 rfl rfl (.c2 rfl rfl (.nil _)),congrArg (fun q => [(true,E4.own _ _ q)]) (by show _ = [1]++numsL ([b.Request.Gate,b.Request.E5,b.C7,b.y7,(b.j7.length:Int)].take (k+1));rw [a52 [b.Request.Gate,b.Request.E5,b.C7,b.y7,(b.j7.length:Int)] k (by simp<;>omega),←List.append_assoc];rfl),?_,by dsimp only;omega⟩
  dsimp only;omega
 ·refine .q 3 hG ?_
  obtain rfl:k=5:=by simp only [List.length_cons,List.length_nil] at hc32;omega
  refine .q 4 hG ?_
  refine .E3 (α:=Nat×Value) [(1,_)] (fun x R=>(3,.raw x.2)::(6,.v (x.1:Int))::R) (fun x => [(true,.own 5 x.2 (numsL (1 :: [b.Request.Gate,b.Request.E5,b.C7,b.y7,(b.j7.length:Int)])++T5 D9 (b.j7.take x.1)))]) (fun x=>x.1≤b.j7.length) (fun x=>b.j7.length - x.1) ((0,w)) (.cons rfl (.nil _)) ?_ (.c2 rfl rfl (.cons rfl (.nil _))) (congrArg (fun q => [(true,E4.own _ _ q)]) (by show [1]++numsL ([b.Request.Gate,b.Request.E5,b.C7,b.y7,(b.j7.length:Int)].take 5)=numsL (1 :: [b.Request.Gate,b.Request.E5,b.C7,b.y7,(b.j7.length:Int)])++T5 D9 (b.j7.take 0);rw [b8Q];simp [T5])) fun x hF => ?_
  ·simp
  obtain⟨k1,w1⟩:=x
  dsimp only at hF ⊢
  have hcl:=a2r D9 b.j7 2100 k1 (fun c hc=>a2l (h.cav c hc))
  refine .q 10 hG ⟨fun hc46 => ?_,fun hc46 => ?_⟩
  ·refine .q 4 hG ?_
   have hpl2:=a4a b.j7[k1]
   have hco:=h.cav _ (List.getElem_mem (show k1 < b.j7.length by omega))
   refine .q 4 hG ?_
   refine .ix (by omega) (by omega) ?_
   refine .q 1 hG ?_
   refine .k hG (a9U _) ?_
   refine .q 9 hG ?_
   refine .ap (by simp<;>omega) (by simp<;>omega) fun w60 => ?_
   refine .q 4 hG ?_
   refine .ad (by omega) (by omega) ?_
   refine .q 2 hG ?_
   refine⟨(k1+1,_),.c2 rfl rfl (.cons rfl (.nil _)),congrArg (fun q => [(true,E4.own _ _ q)]) (by show _++(X5 b.j7[k1]).1=numsL (1 :: [b.Request.Gate,b.Request.E5,b.C7,b.y7,(b.j7.length:Int)])++T5 D9 (b.j7.take (k1+1));rw [a1E D9 b.j7 k1 (by omega),a1I hco];simp),?_,by dsimp only;omega⟩
   omega
  ·refine .q 2 hG ?_
   obtain rfl:k1=b.j7.length:=by omega
   refine .E0 [j0] (by kernel_rfl) 10 [[],[],[(62,1)],[(61,0),(63,2)],[],[(65,4)],[(66,5)],[(67,6)],[(64,3),(68,7)],[(69,8)]] [0,3,8,9] a8 (by kernel_rfl) a8 (by kernel_rfl) (by decide) (.inl ?_)
   refine⟨_,fun H=>j6.A9 p6.l4 (fun x=>x.Proof) a8u a8 (fun _=>a8) (.t a8) a8,?_⟩
   refine⟨_,fun H=>j6.P0 (by decide) O1 (.t a8) a8,?_⟩
   refine .inl ?_
   refine⟨_,fun H=>j6.A9 p6.l5 (fun x=>x.j3) V5 a8 (fun _=>a8) (.t a8) a8,?_⟩
   refine⟨_,fun H=>j6.G9 b3M (.t a8) a8,?_⟩
   refine⟨_,fun H=>j6.len underlying27 (.t a8) a8,?_⟩
   refine⟨_,fun H=>j6.o9 hG (F4 _ (by omega) (by omega)) (.cons (.t a8) .nil) a8,?_⟩
   refine .inl (.inl ?_)
   refine⟨⟨([],j2 [_]),a8⟩,?_⟩
   refine A6.ofP (j6.move (.t rfl) ?_)
   refine⟨⟨([],j2 [_]),a8⟩,?_⟩
   refine A6.append P4 (.inl ⟨_,underlying86⟩) rfl .z (.v (.t rfl)) (by simp<;>omega) (by simp<;>omega) (fun w64 => ?_) rfl
   refine⟨⟨([],j2 [_]),a8⟩,?_⟩
   refine A6.append P4 (.inl ⟨_,underlying86⟩) rfl .z (.v (.t rfl)) (by simp<;>omega) (by simp<;>omega) (fun w69 => ?_) rfl
   refine⟨⟨([],j2 [_]),a8⟩,?_⟩
   refine A6.ofP (j6.assign (.t rfl) ?_)
   refine⟨⟨([],j2 [_]),a8⟩,?_⟩
   show D6 _ _ _ _ _ [] ((3,_)::(69,_)::(68,_)::(67,_)::(66,_)::(65,_)::(64,_)::(63,_)::(62,_)::(61,_)::_) _
   refine .q 7 hG ?_
   refine .E3 (α:=Nat×Value) [(1,_)] (fun x R=>(3,.raw x.2)::(9,.v (x.1:Int))::R) (fun x => [(true,.own 5 x.2 (a3c b++J7 b.j3.length++T5 K7 (b.j3.take x.1)))]) (fun x=>x.1≤b.j3.length) (fun x=>b.j3.length - x.1) ((0,_)) (.cons rfl (.nil _)) ?_ (.c2 rfl rfl (.cons rfl (.nil _))) (congrArg (fun q => [(true,E4.own _ _ q)]) (by show _=a3c b++J7 b.j3.length++T5 K7 (b.j3.take 0);unfold a3c;simp [T5])) fun x hF => ?_
   ·simp
   obtain⟨k2,w2⟩:=x
   dsimp only at hF ⊢
   have hcl:=a2r K7 b.j3 1400 k2 (fun d hd=>(b5F h hd).len)
   refine .q 10 hG ⟨fun hc74 => ?_,fun hc74 => ?_⟩
   ·refine .q 8 hG ?_
    refine .ix (by omega) (by omega) ?_
    refine .q 2 hG fun b10 => ?_
    refine .q 3 hG ?_
    have hdd:=b5F h (List.getElem_mem (show k2 < b.j3.length by omega))
    have q1:=hdd.a74
    have q2:=hdd.tick
    have q3:=hdd.lt
    have q4:=hdd.ln
    refine .A8 hC .z (.O5 10 a8 .z (.del .z (.E0 [j0] (by kernel_rfl) 11 [[],[],[(83,1)],[(84,2)],[(82,0),(85,3)],[],[(87,5)],[(88,6)],[(89,7)],[(86,4),(90,8)],[(91,9)]] [0,4,9,10] a8 (by kernel_rfl) a8 (by kernel_rfl) (by decide) (.inl ?_))))
    refine⟨_,fun H=>j6.A9 p8.l0 (fun x=>x.j9) a8v a8 (fun _=>a8) (.t a8) a8,?_⟩
    refine⟨_,fun H=>j6.G9 a3E (.t a8) a8,?_⟩
    refine⟨_,fun H=>j6.o9 hG (a1d _ (by simp<;>omega)) (.cons (.t a8) .nil) a8,?_⟩
    refine .inl ?_
    refine⟨_,fun H=>j6.A9 p8.l1 (fun x=>x.l8) a5O a8 (fun _=>a8) (.t a8) a8,?_⟩
    refine⟨_,fun H=>j6.G9 a8L (.t a8) a8,?_⟩
    refine⟨_,fun H=>j6.len underlying83 (.t a8) a8,?_⟩
    refine⟨_,fun H=>j6.o9 hG (F4 _ (by omega) (by simp<;>omega)) (.cons (.t a8) .nil) a8,?_⟩
    refine .inl (.inl ?_)
    refine⟨⟨([],j2 [_]),a8⟩,?_⟩
    refine A6.ofP (j6.move (.t rfl) ?_)
    refine⟨⟨([],j2 [_]),a8⟩,?_⟩
    refine A6.append P4 (.inl ⟨_,underlying86⟩) rfl .z (.v (.t rfl)) (by simp<;>omega) (by simp<;>omega) (fun w86 => ?_) rfl
    refine⟨⟨([],j2 [_]),a8⟩,?_⟩
    refine A6.append P4 (.inl ⟨_,underlying86⟩) rfl .z (.v (.t rfl)) (by simp<;>omega) (by simp<;>omega) (fun w91 => ?_) rfl
    refine⟨⟨([],j2 [_]),a8⟩,?_⟩
    refine A6.ofP (j6.assign (.t rfl) ?_)
    refine⟨⟨([],j2 [_]),a8⟩,?_⟩
    show D6 _ _ _ _ _ [] ((3,_)::(91,_)::(90,_)::(89,_)::(88,_)::(87,_)::(86,_)::(85,_)::(84,_)::(83,_)::(82,_)::_) _
    refine .q 7 hG ?_
    refine .E3 (α:=Nat×Value) [(1,_),(9,_),(10,_)] (fun x R=>(3,.raw x.2)::(11,.v (x.1:Int))::R) (fun x => [(true,.own 5 x.2 (a3c b++J7 b.j3.length++T5 K7 (b.j3.take k2)++(J7 b.j3[k2].j9.length++b.j3[k2].j9)++J7 b.j3[k2].l8.length++T5 u6 (b.j3[k2].l8.take x.1)))]) (fun x=>x.1≤b.j3[k2].l8.length) (fun x=>b.j3[k2].l8.length - x.1) ((0,_)) (.c2 rfl rfl (.cons rfl (.nil _))) ?_ (.c2 rfl rfl (.c2 rfl rfl (.cons rfl (.nil _)))) (congrArg (fun q => [(true,E4.own _ _ q)]) (by show _=a3c b++J7 b.j3.length++T5 K7 (b.j3.take k2)++(J7 b.j3[k2].j9.length++b.j3[k2].j9)++J7 b.j3[k2].l8.length++T5 u6 (b.j3[k2].l8.take 0);simp [T5])) fun x hF => ?_
    ·simp
    obtain⟨k3,w3⟩:=x
    dsimp only at hF ⊢
    have hcl3:=a2r u6 b.j3[k2].l8 24 k3 (fun p hp=>H7 (K6 (hdd.con p hp)))
    refine .q 10 hG ⟨fun hc96 => ?_,fun hc96 => ?_⟩
    ·refine .q 4 hG ?_
     have hx3:(k3:Int) < (b.j3[k2].l8.length:Int):=hc96
     have hpo:=hdd.con _ (List.getElem_mem (show k3 < b.j3[k2].l8.length by omega))
     have hpl3:=a19 b.j3[k2].l8[k3]
     refine .q 4 hG ?_
     refine .ix (by omega) (by omega) ?_
     refine .q 1 hG ?_
     refine .k hG (a54 _) ?_
     refine .q 9 hG ?_
     refine .ap (by simp<;>omega) (by simp<;>omega) fun w110 => ?_
     refine .q 4 hG ?_
     refine .ad (by omega) (by omega) ?_
     refine .q 2 hG ?_
     refine⟨(k3+1,_),.c2 rfl rfl (.c2 rfl rfl (.cons rfl (.nil _))),congrArg (fun q => [(true,E4.own _ _ q)]) (by show _++(V1 b.j3[k2].l8[k3]).1=a3c b++J7 b.j3.length++T5 K7 (b.j3.take k2)++(J7 b.j3[k2].j9.length++b.j3[k2].j9)++J7 b.j3[k2].l8.length++T5 u6 (b.j3[k2].l8.take (k3+1));rw [a1E u6 b.j3[k2].l8 k3 (by omega),y3 hpo];simp),?_,by dsimp only;omega⟩
     omega
    ·refine .q 1 hG ?_
     have hx3:¬((k3:Int) < (b.j3[k2].l8.length:Int)):=hc96
     rw [List.take_of_length_le (show b.j3[k2].l8.length≤k3 by omega)]
     have q5:=a18 u6 b.j3[k2].l8 24 (fun p hp=>H7 (K6 (hdd.con p hp)))
     refine .q 3 hG ?_
     refine .p (.P0 (by decide) O1 (.t a8) ?_)
     refine .ap (by simp<;>omega) (by simp<;>omega) fun w114 => ?_
     refine .q 4 hG ?_
     refine .ad (by omega) (by omega) ?_
     refine .q 2 hG ?_
     refine⟨(k2+1,_),.c2 rfl rfl (.cons rfl (.nil _)),congrArg (fun q => [(true,E4.own _ _ q)]) (by show _=a3c b++J7 b.j3.length++T5 K7 (b.j3.take (k2+1));rw [a1E K7 b.j3 k2 (by omega)];simp [K7,a0w]),?_,by dsimp only;omega⟩
     omega
   ·refine .q 2 hG ?_
    refine .u0 hC .z (.as 3 a8 .z ?_)
    refine .q 5 hG ?_
    refine .e1 a8 a8 ?_
    refine congrArg AV.v ?_
    rw [List.take_of_length_le (by omega)];unfold a1j a3c;simp
theorem any_succ {α:Type} (p:α→Bool) (l:List α) (k:Nat) (h:k < l.length):(l.take (k+1)).any p=((l.take k).any p||p l[k]):=by
 rw [List.take_succ_eq_append_getElem h,List.any_append];simp
def a0A (b:O4) (i:Nat):Bool:=(!b.j7.all H5)||(b.j3.take i).any a3p
def X8 (b:O4) (i:Nat):Bool:=(b.j3.take i).any a3J
def a4c (p:Pred):Bool := !A7 p
def a3M (p:Pred):Bool:=decide (p.Kind=7)
theorem b2H (b:O4) (i:Nat) (h:i < b.j3.length):a0A b (i+1)=(a0A b i||decide ((b.j3[i].j9.length:Int) < 1)||decide ((1024:Int) < (b.j3[i].j9.length:Int))||b.j3[i].l8.any a4c):=by
 unfold a0A;rw [any_succ _ _ _ h,c1m,b2E];unfold a3p a4c;simp only [Bool.or_assoc]
theorem b1c (b:O4) (i:Nat) (h:i < b.j3.length):X8 b (i+1)=(X8 b i||b.j3[i].l8.any a3M):=by
 unfold X8;rw [any_succ _ _ _ h];rfl
theorem c0A {b:O4} (h1:(decide ((64:Int) < (b.j7.length:Int))||decide (8 < a1g b.j7)||decide ((8:Int) < (b.j3.length:Int)))=false) (h2:b.j3.any a1Q=false):S7 b=false:=by
 rw [b8K,c0v] at h1;unfold S7;rw [h1,h2];rfl
theorem c2g {b:O4} (h1:(decide ((64:Int) < (b.j7.length:Int))||decide (8 < a1g b.j7)||decide ((8:Int) < (b.j3.length:Int)))=true):S7 b=true:=by
 rw [b8K,c0v] at h1;unfold S7;rw [h1];rfl
theorem c2h {b:O4} {i:Nat} (h:i < b.j3.length) (h2:(8:Int) < (b.j3[i].l8.length:Int)):S7 b=true:=by
 have:b.j3.any a1Q=true:=List.any_eq_true.2 ⟨_,List.getElem_mem h,by unfold a1Q;rw [decide_eq_true_eq];omega⟩
 unfold S7;rw [this,Bool.or_true]
theorem a6D (b:O4):a0A b b.j3.length=((b.j7.any fun c => !H5 c)||b.j3.any a3p):=by
 unfold a0A;rw [List.take_length];congr 1
 induction b.j7 with
 | nil=>rfl
 | cons c l ih=>rw [List.all_cons,List.any_cons,Bool.not_and,ih]
theorem c0B {b:O4} (h:L8 b=false):K3 b=1:=by
 have:F7 b=1:=by unfold F7;rw [if_pos h]
 rw [a0r (by rw [this];decide),this]
theorem b5G {b:O4} (h:L8 b=true) (h2:S7 b=true):K3 b=2:=by
 have:F7 b=2:=by unfold F7;rw [if_neg (by rw [h];decide),if_pos h2]
 rw [a0r (by rw [this];decide),this]
theorem c0C {b:O4} (h:L8 b=true) (h2:S7 b=false) (h3:a0A b b.j3.length=true):K3 b=5:=by
 rw [a6D] at h3
 have:F7 b=5:=by unfold F7;rw [if_neg (by rw [h];decide),if_neg (by rw [h2];decide),if_pos h3]
 rw [a0r (by rw [this];decide),this]
theorem c0D {b:O4} (h:L8 b=true) (h2:S7 b=false) (h3:a0A b b.j3.length=false) (h4:X8 b b.j3.length=true):K3 b=6:=by
 rw [a6D] at h3;unfold X8 at h4;rw [List.take_length] at h4
 have:F7 b=6:=by unfold F7;rw [if_neg (by rw [h];decide),if_neg (by rw [h2];decide),if_neg (by rw [h3];decide),if_pos h4]
 rw [a0r (by rw [this];decide),this]
theorem b8S {b:O4} (h:L8 b=true) (h2:S7 b=false) (h3:a0A b b.j3.length=false) (h4:X8 b b.j3.length=false) (h5:V3 b.j3 b.j3.length=true):K3 b=10:=by
 rw [a6D] at h3;unfold X8 at h4;rw [List.take_length] at h4
 have:F7 b=10:=by unfold F7;rw [if_neg (by rw [h];decide),if_neg (by rw [h2];decide),if_neg (by rw [h3];decide),if_neg (by rw [h4];decide),if_pos (show a3q b.j3=true from h5)]
 rw [a0r (by rw [this];decide),this]
theorem c0E {b:O4} (h:L8 b=true) (h2:S7 b=false) (h3:a0A b b.j3.length=false) (h4:X8 b b.j3.length=false) (h5:V3 b.j3 b.j3.length=false):F7 b=0:=by
 rw [a6D] at h3;unfold X8 at h4;rw [List.take_length] at h4
 unfold F7;rw [if_neg (by rw [h];decide),if_neg (by rw [h2];decide),if_neg (by rw [h3];decide),if_neg (by rw [h4];decide),if_neg (by unfold a3q;rw [h5];decide)]
theorem b2I (b:O4) (hl:b.j7.length≤1000000):u1 gl prog 44 [.v b] (fun r=>r = .v (K3 b)):=by
 refine u1.jn func44 (by kernel_rfl) 138 rfl fun C hC hG => ?_
 refine .q 3 hG fun b1 => ?_
 refine .q 4 hG ?_
 refine .A8 hC .z (.O5 1 a8 .z (.del .z ?_))
 refine .q 3 hG ?_
 refine .k hG (b5B _) ?_
 refine .q 22 hG ?_
 refine .cond (.t a8) (fun hc33 => ?_) (fun hc33 => ?_)
 ·refine .q 5 hG ?_
  refine .e1 a8 a8 ?_
  rw [c0B (b2G hc33)]
 ·refine .q 11 hG ?_
  refine .kg hG (a9T _ hl) ?_
  refine .q 9 hG ?_
  refine .cond (.t a8) (fun hc49 => ?_) (fun hc49 => ?_)
  ·refine .q 5 hG ?_
   refine .e1 a8 a8 ?_
   rw [b5G (a0Y hc33) (c2g hc49)]
  ·refine .q 2 hG ?_
   have hD:b.j3.length≤8:=by simp only [Bool.or_eq_false_iff,decide_eq_false_iff_not] at hc49;omega
   refine .q 3 hG ?_
   refine .k hG (b2t _) ?_
   refine .q 11 hG ?_
   refine .E3 (α:=Nat) [(1,_)] (fun i R=>(3,.v (a0A b i))::(4,.v (X8 b i))::(5,.v (V3 b.j3 i))::(6,.v (i:Int))::R) (Function.const _ _) (fun i=>i≤b.j3.length∧(b.j3.take i).any a1Q=false) (fun i=>b.j3.length - i) (0) (.cons a8 (.nil _)) ?_ (.cons (congrArg (fun q=>some (AV.v q)) (by unfold a0A;simp)) (.c2 a8 a8 (.c2 a8 a8 (.nil _)))) (a8) fun i hF => ?_
   ·exact⟨Nat.zero_le _,a8⟩
   obtain⟨h1,h2⟩:=hF
   refine .q 10 hG ⟨fun hc58 => ?_,fun hc58 => ?_⟩
   ·refine .q 8 hG ?_
    refine .ix (by omega) (by omega) ?_
    refine .q 2 hG fun b7 => ?_
    refine .q 4 hG ?_
    refine .A8 hC .z (.O5 7 a8 .z (.del .z ?_))
    have hi:i < b.j3.length:=by omega
    refine .q 7 hG ⟨fun hc69 => ?_,fun hc69 => ?_⟩
    ·refine .q 5 hG ?_
     refine .e1 a8 a8 ?_
     rw [b5G (a0Y hc33) (c2h hi hc69)]
    ·refine .q 20 hG ?_
     have hcl:b.j3[i].l8.length≤8:=by(have hx:¬((8:Int) < (b.j3[i].l8.length:Int)):=hc69;omega)
     refine .q 4 hG ?_
     refine .E3 (α:=Nat) [(1,_),(5,_),(6,_),(7,_)] (fun y R=>(3,.v (a0A b i||decide ((b.j3[i].j9.length:Int) < 1)||decide ((1024:Int) < (b.j3[i].j9.length:Int))||(b.j3[i].l8.take y).any a4c))::(4,.v (X8 b i||(b.j3[i].l8.take y).any a3M))::(8,.v (y:Int))::R) (Function.const _ _) (fun y=>y≤b.j3[i].l8.length) (fun y=>b.j3[i].l8.length - y) (0) (.c2 a8 a8 (.c2 a8 a8 (.nil _))) ?_ (.cons (congrArg (fun q=>some (AV.v q)) (Bool.or_false _).symm) (.cons (congrArg (fun q=>some (AV.v q)) (Bool.or_false _).symm) (.c2 a8 a8 (.c2 a8 a8 (.cons a8 (.nil _)))))) (a8) fun y hF => ?_
     ·simp
     refine .q 10 hG ⟨fun hc87 => ?_,fun hc87 => ?_⟩
     ·refine .q 4 hG ?_
      have hy2:y < b.j3[i].l8.length:=by(have hx:(y:Int) < (b.j3[i].l8.length:Int):=hc87;omega)
      refine .q 6 hG ?_
      refine .go 91 a8 (.t a8) (fun hg95 => .idx Q5 underlying83 (.q a8 hg95) (.q a8 hg95) (by first|omega|(simp;omega)|(have:=hg95;simp at this;omega)) (by first|omega|(simp;omega)|(have:=hg95;simp at this;omega)) a8) ?_
      refine .q 1 hG ?_
      refine .kg hG (a1f _) ?_
      refine .q 10 hG ?_
      refine .go 101 a8 (.t a8) (fun hg105 => .idx Q5 underlying83 (.q a8 hg105) (.q a8 hg105) (by first|omega|(simp;omega)|(have:=hg105;simp at this;omega)) (by first|omega|(simp;omega)|(have:=hg105;simp at this;omega)) a8) ?_
      refine .q 6 hG ?_
      have hf1:(a0A b i||decide ((b.j3[i].j9.length:Int) < 1)||decide ((1024:Int) < (b.j3[i].j9.length:Int))||(b.j3[i].l8.take y).any a4c || !A7 b.j3[i].l8[y])=(a0A b i||decide ((b.j3[i].j9.length:Int) < 1)||decide ((1024:Int) < (b.j3[i].j9.length:Int))||(b.j3[i].l8.take (y+1)).any a4c):=(by rw [any_succ a4c b.j3[i].l8 y hy2,←Bool.or_assoc];rfl)
      have hf2:(X8 b i||(b.j3[i].l8.take y).any a3M||decide (b.j3[i].l8[y].Kind=7))=(X8 b i||(b.j3[i].l8.take (y+1)).any a3M):=(by rw [any_succ a3M b.j3[i].l8 y hy2,←Bool.or_assoc];rfl)
      refine .q 2 hG ?_
      refine .ad (by omega) (by omega) ?_
      refine .q 2 hG ?_
      refine⟨y+1,.cons (congrArg (fun q=>some (AV.v q)) hf1) (.cons (congrArg (fun q=>some (AV.v q)) hf2) (.c2 rfl rfl (.c2 rfl rfl (.cons rfl (.nil _))))),rfl,?_,by omega⟩
      omega
     ·refine .q 2 hG ?_
      have hy:b.j3[i].l8.length≤y:=by(have hx:¬((y:Int) < (b.j3[i].l8.length:Int)):=hc87;omega)
      refine .q 4 hG ?_
      refine .E3 (α:=Nat) [(1,_),(3,_),(4,_),(6,_),(7,_)] (fun z R=>(5,.v (V3 b.j3 i||(b.j3.take z).any fun d=>decide (d.j9=b.j3[i].j9)))::(9,.v (z:Int))::R) (Function.const _ _) (fun z=>z≤i) (fun z=>i - z) (0) (.c2 a8 a8 (.c2 a8 a8 (.cons a8 (.nil _)))) ?_ (.cons (congrArg (fun q=>some (AV.v q)) (Bool.or_false _).symm) (.c2 a8 a8 (.c2 a8 a8 (.c2 a8 a8 (.nil _))))) (a8) fun z hF => ?_
      ·simp
      refine .q 8 hG ⟨fun hc112 => ?_,fun hc112 => ?_⟩
      ·refine .q 3 hG ?_
       have hz2:z < b.j3.length:=by omega
       refine .draw (by kernel_rfl) 13 [[],[(115,0)],[],[(117,2)],[],[(119,4)],[],[(120,5),(121,6)],[(122,7)],[(123,8)],[(118,3),(124,9)],[(116,1),(125,10)],[(126,11)]] a8 (by kernel_rfl) a8 ?_
       refine⟨_,j6.move (.t a8) a8,?_⟩
       refine⟨_,j6.move (.t a8) a8,?_⟩
       refine⟨_,⟨_,_,a8,a8,fun hg117=>j6.A9 p8.l0 (fun x=>x.j9) a8v a8 (fun _=>a8) (.t a8) a8⟩,?_⟩
       refine⟨_,⟨_,_,a8,a8,fun hg118=>j6.G9 a3E (.q a8 hg118) a8⟩,?_⟩
       refine⟨_,⟨_,_,a8,a8,fun hg119=>j6.A9 p6.l5 (fun x=>x.j3) V5 a8 (fun _=>a8) (.t a8) a8⟩,?_⟩
       refine⟨_,⟨_,_,a8,a8,fun hg120=>j6.G9 b3M (.q a8 hg120) a8⟩,?_⟩
       refine⟨_,⟨_,_,a8,a8,fun hg121=>j6.move (.t a8) a8⟩,?_⟩
       refine⟨_,⟨_,_,a8,a8,fun hg122=>j6.idx Z1 underlying27 (.q a8 hg122) (.q a8 hg122) (by first|omega|(simp;omega)|(have:=hg122;simp at this;omega)) (by first|omega|(simp;omega)|(have:=hg122;simp at this;omega)) a8⟩,?_⟩
       refine⟨_,⟨_,_,a8,a8,fun hg123=>j6.A9 p8.l0 (fun x=>x.j9) a8v a8 (fun _=>a8) (.q a8 hg123) a8⟩,?_⟩
       refine⟨_,⟨_,_,a8,a8,fun hg124=>j6.G9 a3E (.q a8 hg124) a8⟩,?_⟩
       refine⟨_,⟨_,_,a8,a8,fun hg125=>j6.o9 hG (a3Z _ _) (.cons (.q a8 hg125) (.cons (.q a8 hg125) .nil)) a8⟩,?_⟩
       refine⟨_,j6.a4x (.t a8) (fun hp=>(.q a8 hp)) a8,?_⟩
       refine⟨_,j6.assign (.t a8) a8,?_⟩
       show D6 _ _ _ _ _ [] ((5,_)::(126,_)::(125,_)::(124,_)::(123,_)::(122,_)::(121,_)::(120,_)::(119,_)::(118,_)::(117,_)::(116,_)::(115,_)::_) _
       refine .q 1 hG ?_
       have hf3:(V3 b.j3 i||((b.j3.take z).any fun d=>decide (d.j9=b.j3[i].j9))||decide (b.j3[i].j9=b.j3[z].j9))=(V3 b.j3 i||(b.j3.take (z+1)).any fun d=>decide (d.j9=b.j3[i].j9)):=(by rw [any_succ _ b.j3 z hz2,←Bool.or_assoc,decide_eq_decide.2 (show b.j3[i].j9=b.j3[z].j9↔b.j3[z].j9=b.j3[i].j9 from eq_comm)])
       refine .q 2 hG ?_
       refine .ad (by omega) (by omega) ?_
       refine .q 2 hG ?_
       refine⟨z+1,.cons (congrArg (fun q=>some (AV.v q)) hf3) (.c2 rfl rfl (.c2 rfl rfl (.c2 rfl rfl (.nil _)))),rfl,?_,by omega⟩
       omega
      ·refine .q 1 hG ?_
       have he1:(a0A b i||decide ((b.j3[i].j9.length:Int) < 1)||decide ((1024:Int) < (b.j3[i].j9.length:Int))||(b.j3[i].l8.take y).any a4c)=a0A b (i+1):=(by rw [b2H b i hi,List.take_of_length_le hy])
       have he2:(X8 b i||(b.j3[i].l8.take y).any a3M)=X8 b (i+1):=(by rw [b1c b i hi,List.take_of_length_le hy])
       have hz:z=i:=by omega
       have he3:(V3 b.j3 i||(b.j3.take z).any fun d=>decide (d.j9=b.j3[i].j9))=V3 b.j3 (i+1):=(by rw [hz,a38 b.j3 i hi])
       refine .q 2 hG ?_
       refine .ad (by omega) (by omega) ?_
       refine .q 2 hG ?_
       refine⟨i+1,.cons (congrArg (fun q=>some (AV.v q)) he1) (.cons (congrArg (fun q=>some (AV.v q)) he2) (.cons (congrArg (fun q=>some (AV.v q)) he3) (.c2 rfl rfl (.nil _)))),rfl,?_,by omega⟩
       exact⟨by omega,by rw [any_succ a1Q _ i hi,h2];unfold a1Q;rw [decide_eq_false (by omega)];rfl⟩
   ·refine .q 4 hG ?_
    obtain rfl:i=b.j3.length:=by omega
    rw [List.take_length] at h2
    have hm:=c0A hc49 h2
    have hr:=a0Y hc33
    refine .q 4 hG ?_
    refine .cond (.t a8) (fun hc127 => ?_) (fun hc127 => ?_)
    ·refine .q 5 hG ?_
     refine .e1 a8 a8 ?_
     rw [c0C hr hm hc127]
    ·refine .q 5 hG ?_
     refine .cond (.t a8) (fun hc129 => ?_) (fun hc129 => ?_)
     ·refine .q 5 hG ?_
      refine .e1 a8 a8 ?_
      rw [c0D hr hm hc127 hc129]
     ·refine .q 5 hG ?_
      refine .cond (.t a8) (fun hc131 => ?_) (fun hc131 => ?_)
      ·refine .q 5 hG ?_
       refine .e1 a8 a8 ?_
       rw [b8S hr hm hc127 hc129 hc131]
      ·refine .q 1 hG ?_
       have h0:=c0E hr hm hc127 hc129 hc131
       refine .q 2 hG ?_
       refine .k hG (b8R _ (a4O h0)) ?_
       refine .q 4 hG ?_
       refine .cond (.t a8) (fun hc133 => ?_) (fun hc133 => ?_)
       ·refine .q 5 hG ?_
        refine .e1 a8 a8 ?_
        rw [a7Q h0 (by simp only [decide_eq_true_eq] at hc133;omega)]
       ·refine .q 6 hG ?_
        refine .e1 a8 a8 ?_
        rw [a7R h0 (by simp only [decide_eq_false_iff_not] at hc133;omega)]
theorem b4x (l:List Epo) (p:Epo→Bool):u1 gl prog 36 [.v l,.a8G prog p] (fun r=>r = .v (idx l p)):=by
 refine u1.jn func36 (by kernel_rfl) 19 rfl fun C hC hG => ?_
 refine .q 6 hG ?_
 refine .S0 0 a8 fun hl0 => ?_
 refine .q 6 hG ?_
 refine .E3 (α:=Nat) [(0,_),(1,_),(7,_)] (fun k R=>(8,.v (k:Int))::R) (fun k => []) (fun k=>k≤l.length∧∀ j (hj:j < l.length),j < k→p l[j]=false) (fun k=>l.length - k) (0) (.c2 a8 a8 (.cons a8 (.nil _))) ?_ (.c2 a8 a8 (.c2 a8 a8 (.nil _))) (a8) fun k hF => ?_
 ·simp
 obtain⟨h1,h2⟩:=hF
 refine .q 6 hG ⟨fun hc9 => ?_,fun hc9 => ?_⟩
 ·refine .q 13 hG ?_
  refine .ix (by omega) (by omega) ?_
  refine .q 1 hG ?_
  refine .p (.a4B a8 (.t a8) ?_)
  refine .q 1 hG ?_
  refine .cond (.t a8) (fun hc16 => ?_) (fun hc16 => ?_)
  ·refine .q 6 hG ?_
   refine .e1 a8 a8 ?_
   rw [a8P (by omega) (by simpa using hc16) h2]
  ·refine .q 2 hG ?_
   refine .ad (by omega) (by omega) ?_
   refine .q 2 hG ?_
   refine⟨k+1,.c2 rfl rfl (.c2 rfl rfl (.nil _)),rfl,?_,by omega⟩
   refine⟨by omega,fun j hj hjk => ?_⟩;rcases Nat.lt_or_ge j k with h|h;exact h2 j hj h;(obtain rfl:j=k:=by omega);simpa using hc16
 ·refine .q 3 hG ?_
  refine .p (.assign (.i a8) ?_)
  refine .q 2 hG ?_
  refine .e1 a8 a8 ?_
  rw [a3G fun j hj=>h2 j hj (by omega)]
theorem b5H (f:Tag) (o:Bool) (t:Tag):u1 gl prog 41 [.v f,.v o,.v t] (fun r=>r = .v (o&&decide (f=t))):=by
 refine u1.jn func41 (by kernel_rfl) 13 rfl fun C hC hG => ?_
 refine .q 3 hG fun b3 => ?_
 refine .q 1 hG fun b5 => ?_
 refine .q 8 hG ?_
 refine .go 8 a8 (.t a8) (fun hg11 => .a7w underlying26 sz5 underlying5 b0d (.q a8 hg11) (.q a8 hg11) a8) ?_
 refine .q 4 hG ?_
 refine .e1 a8 a8 ?_
 rfl
theorem c0F (d:Bnd) (c:Cav):u1 gl prog 100 [.v d,.p c] (fun r=>r = .v (decide (d.j9=c.j9))):=by
 refine u1.jn func100 (by kernel_rfl) 9 rfl fun C hC hG => ?_
 refine .q 3 hG fun b2 => ?_
 refine .q 8 hG ?_
 refine .p (.o9 hG (a1c _ _) (.cons (.t a8) (.cons (.t a8) .nil)) ?_)
 refine .q 3 hG ?_
 refine .e1 a8 a8 ?_
 rfl
theorem b1d {l:List Bnd} {t:List UInt8} {d:Bnd} (h:a3a l t=some d):d.j9=t:=by
 have:=List.find?_some h;simpa using this
theorem b4y {l:List UInt8} (h:l.length=32):(⟨l,h⟩:Tag)=S3 default l:=J0.ext (a7a h).symm
theorem b1e {b:Bool} (h:(!b)=true):b=false:=by cases b<;>simp_all
theorem b1f {b:Bool} (h:(!b)=false):b=true:=by cases b<;>simp_all
theorem b5I {p:Tag×Bool} {t:Tag} (h:(p.2&&decide (p.1=t))=true):p=(t,true):=by
 simp only [Bool.and_eq_true,decide_eq_true_eq] at h;exact Prod.ext h.2 h.1
theorem b5J {p:Tag×Bool} {t:Tag} (h:(p.2&&decide (p.1=t))=false):p≠(t,true):=by
 rintro rfl;simp at h
theorem c3A {p:Tag×Bool} {t:Tag} (h:(!p.2||decide (p.1≠t))=false):p=(t,true):=by
 simp only [Bool.or_eq_false_iff,decide_eq_false_iff_not,Bool.not_eq_false',Decidable.not_not] at h;exact Prod.ext h.2 h.1
theorem c1n {a:D3} {b:O4} {c:Cav} {t leaf:Tag} (h:(m5 a t (D4 c.j9)).2=false∨(C5 a (m5 a t (D4 c.j9)).1 c.Y0).2≠0∨(C5 a (m5 a t (D4 c.j9)).1 c.Y0).1.length≠32):a0h a b c t leaf=14:=by
 unfold a0h
 rcases h with h|h
 ·rw [if_pos h]
 ·by_cases h2:(m5 a t (D4 c.j9)).2=false
  ·rw [if_pos h2]
  ·rw [if_neg h2,if_pos h]
theorem c0G {a : D3} {b : O4} {c : Cav} {t leaf : Tag} (h : ¬ (m5 a t (D4 c.j9)).2 = false) (h2 : ¬ ((C5 a (m5 a t (D4 c.j9)).1 c.Y0).2 ≠ 0 ∨ (C5 a (m5 a t (D4 c.j9)).1 c.Y0).1.length ≠ 32)) :
    a0h a b c t leaf=match a3a b.j3 c.j9 with
      | none=>17
      | some d =>
        if (a1H a (S3 default (C5 a (m5 a t (D4 c.j9)).1 c.Y0).1) c.j9 d.l8).2=false then 20 else
        if V2 a (a1H a (S3 default (C5 a (m5 a t (D4 c.j9)).1 c.Y0).1) c.j9 d.l8).1 leaf b.Request≠(d.Proof,true) then 20 else 0:=by
  unfold a0h;rw [if_neg h,if_neg h2] <;> rfl
theorem c2i (a:D3) (b:O4) (c:Cav) (t leaf:Tag) (hpl:∀ x∈a.y2,x.Plain.length≤1000000) (hc:c.j9.length≤1024):u1 gl prog 42 [.v a,.v b,.v c,.v t,.v leaf] (fun r=>r = .v (a0h a b c t leaf)):=by
 refine u1.jn func42 (by kernel_rfl) 85 rfl fun C hC hG => ?_
 refine .q 3 hG fun b5 => ?_
 refine .q 1 hG fun b6 => ?_
 refine .q 1 hG fun b7 => ?_
 refine .q 1 hG fun b8 => ?_
 refine .q 1 hG fun b9 => ?_
 refine .q 3 hG ?_
 refine .A8 hC .z4 (.O5 5 a8 .z4 (.A8 hC .z3 (.O5 6 a8 .z3 (.A8 hC .z2 (.O5 7 a8 .z2 (.A8 hC .z1 (.O5 8 a8 .z1 (.A8 hC .z (.O5 9 a8 .z (.del .z (.del .z (.del .z (.del .z (.del .z ?_))))))))))))))
 refine .E0 [] (by kernel_rfl) 12 [[],[],[],[(22,2)],[(23,3)],[(20,0),(21,1),(24,4)],[(25,5)],[(19,6)],[(19,6)],[],[(11,9),(26,7)],[(27,8)]] [9,10] a8 (by kernel_rfl) a8 (by kernel_rfl) (by decide) ?_
 refine⟨_,fun H=>j6.G9 A0 (.t a8) a8,?_⟩
 refine⟨_,fun H=>j6.G9 A5 (.t a8) a8,?_⟩
 refine⟨_,fun H=>j6.A9 m9.l3 (fun x=>x.j9) b3q a8 (fun _=>a8) (.t a8) a8,?_⟩
 refine⟨_,fun H=>j6.G9 a3E (.t a8) a8,?_⟩
 refine⟨_,fun H=>j6.o9 hG (a9V _ _ (by decide) (by omega)) (.cons (.s [115,101,97,108] (by decide) (by decide)) (.cons (.t a8) .nil)) a8,?_⟩
 refine⟨_,fun H=>j6.o9 hG (a1A _ _ _) (.cons (.t a8) (.cons (.t a8) (.cons (.t a8) .nil))) a8,?_⟩
 refine⟨_,fun H=>j6.move (.t a8) a8,?_⟩
 refine⟨_,fun H=>j6.a2A (.t a8) a8,?_⟩
 refine⟨_,fun H=>j6.a2B (.t a8) a8,?_⟩
 refine .inl (.inl ?_)
 refine⟨_,fun H=>j6.assign (.t a8) a8,?_⟩
 refine⟨⟨([],j2 []),a8⟩,?_⟩
 refine A6.alloc A5 fun b11 => ?_
 refine⟨⟨([_],j2 []),a8⟩,?_⟩
 refine A6.Q1 A5 (.t rfl) (.t rfl) .z ?_
 refine⟨⟨([_],j2 []),a8⟩,?_⟩
 show D6 _ _ _ _ _ [] ((12,_)::(11,_)::(27,_)::(26,_)::(19,_)::(25,_)::(24,_)::(23,_)::(22,_)::(21,_)::(20,_)::_) _
 refine .q 7 hG ?_
 refine .cond (.t a8) (fun hc29 => ?_) (fun hc29 => ?_)
 ·refine .q 5 hG ?_
  refine .e1 a8 a8 ?_
  rw [c1n (Or.inl (by(have hx:(!(m5 a t (D4 c.j9)).2)=true:=hc29;simpa using hx)))]
 ·refine .q 2 hG ?_
  have h1:¬(m5 a t (D4 c.j9)).2=false:=by(have hx:(!(m5 a t (D4 c.j9)).2)=false:=hc29;simpa using hx)
  refine .q 5 hG ?_
  refine .p (.o9 hG (b6w _ _ _ hpl) (.cons (.t a8) (.cons (.t a8) (.cons (.t a8) .nil))) ?_)
  refine .q 17 hG ?_
  refine .cond (.t a8) (fun hc44 => ?_) (fun hc44 => ?_)
  ·refine .q 5 hG ?_
   refine .e1 a8 a8 ?_
   rw [c1n (Or.inr (by(have hx:(decide ((C5 a (m5 a t (D4 c.j9)).1 c.Y0).2≠0)||decide (((C5 a (m5 a t (D4 c.j9)).1 c.Y0).1.length:Int)≠32))=true:=hc44);simp only [Bool.or_eq_true,decide_eq_true_eq] at hx;rcases hx with hx|hx;exact Or.inl hx;exact Or.inr (by omega)))]
  ·refine .q 2 hG ?_
   have h2:(C5 a (m5 a t (D4 c.j9)).1 c.Y0).2=0∧(C5 a (m5 a t (D4 c.j9)).1 c.Y0).1.length=32:=(by(have hx:(decide ((C5 a (m5 a t (D4 c.j9)).1 c.Y0).2≠0)||decide (((C5 a (m5 a t (D4 c.j9)).1 c.Y0).1.length:Int)≠32))=false:=hc44);simp only [Bool.or_eq_false_iff,decide_eq_false_iff_not,Decidable.not_not] at hx;exact⟨hx.1,by omega⟩)
   rw [c0G h1 (by rintro (h|h);exact h h2.1;exact h h2.2)]
   refine .q 3 hG ?_
   refine .p (.b0z hG (fun x=>c0F x _) (.cons (.t a8) .nil) (.p (.o9 hG (a81 _ _) (.cons (.t a8) (.cons (.t a8) .nil)) ?_)))
   refine .q 9 hG ⟨fun hc50 => ?_,fun hc50 => ?_⟩
   ·refine .q 5 hG ?_
    refine .e1 a8 a8 ?_
    unfold a3a
    rw [b0N (show ¬0≤idx b.j3 (fun d=>decide (d.j9=c.j9)) from fun hx=>absurd hc50 (Int.not_lt.2 hx))]
   ·refine .q 2 hG ?_
    have hi0:0≤idx b.j3 (fun d=>decide (d.j9=c.j9)):=Int.not_lt.1 hc50
    have hi1:=b3T hi0
    have hd:a3a b.j3 c.j9=some b.j3[(idx b.j3 (fun d=>decide (d.j9=c.j9))).toNat]:=b0M hi0 (by omega)
    have hdt:=b1d hd
    rw [hd]
    dsimp only
    refine .q 4 hG ?_
    refine .ix (by omega) (by omega) ?_
    refine .q 2 hG fun b16 => ?_
    refine .q 3 hG ?_
    refine .A8 hC .z (.O5 16 a8 .z ?_)
    have ed:a1H a (S3 default (C5 a (m5 a t (D4 c.j9)).1 c.Y0).1) c.j9 b.j3[(idx b.j3 (fun d=>decide (d.j9=c.j9))).toNat].l8=a1H a ⟨(C5 a (m5 a t (D4 c.j9)).1 c.Y0).1,h2.2⟩ b.j3[(idx b.j3 (fun d=>decide (d.j9=c.j9))).toNat].j9 b.j3[(idx b.j3 (fun d=>decide (d.j9=c.j9))).toNat].l8:=(by rw [hdt,b4y h2.2])
    rw [ed]
    refine .E0 [j1,j1] (by kernel_rfl) 15 [[],[],[(58,1)],[(59,2)],[],[(61,4)],[],[(63,6)],[(57,0),(60,3),(62,5),(64,7)],[(65,8)],[(56,9)],[(56,9)],[],[(17,12),(66,10)],[(67,11)]] [12,13] a8 (by kernel_rfl) a8 (by kernel_rfl) (by decide) ?_
    refine⟨_,fun H=>j6.G9 A0 (.t a8) a8,?_⟩
    refine⟨_,fun H=>j6.move (.t a8) a8,?_⟩
    refine⟨_,fun H=>j6.c0h underlying26 (by decide) (by decide) (.t a8) h2.2 a8,?_⟩
    refine⟨_,fun H=>j6.G9 A5 (.t a8) a8,?_⟩
    refine⟨_,fun H=>j6.A9 p8.l0 (fun x=>x.j9) a8v a8 (fun _=>a8) (.t a8) a8,?_⟩
    refine⟨_,fun H=>j6.G9 a3E (.t a8) a8,?_⟩
    refine⟨_,fun H=>j6.A9 p8.l1 (fun x=>x.l8) a5O a8 (fun _=>a8) (.t a8) a8,?_⟩
    refine⟨_,fun H=>j6.G9 a8L (.t a8) a8,?_⟩
    refine⟨_,fun H=>j6.o9 hG (b8B _ _ _ _ (by rw [hdt];omega)) (.cons (.t a8) (.cons (.t a8) (.cons (.t a8) (.cons (.t a8) .nil)))) a8,?_⟩
    refine⟨_,fun H=>j6.move (.t a8) a8,?_⟩
    refine⟨_,fun H=>j6.a2A (.t a8) a8,?_⟩
    refine⟨_,fun H=>j6.a2B (.t a8) a8,?_⟩
    refine .inl (.inl ?_)
    refine⟨_,fun H=>j6.assign (.t a8) a8,?_⟩
    refine⟨⟨([],j2 [c8,c8]),a8⟩,?_⟩
    refine A6.alloc A5 fun b17 => ?_
    refine⟨⟨([_],j2 [c8,c8]),a8⟩,?_⟩
    refine A6.Q1 A5 (.t rfl) (.t rfl) .z ?_
    refine⟨⟨([_],j2 [c8,c8]),a8⟩,?_⟩
    show D6 _ _ _ _ _ [] ((12,_)::(17,_)::(67,_)::(66,_)::(56,_)::(65,_)::(64,_)::(63,_)::(62,_)::(61,_)::(60,_)::(59,_)::(58,_)::(57,_)::_) _
    refine .q 7 hG ?_
    refine .cond (.t a8) (fun hc69 => ?_) (fun hc69 => ?_)
    ·refine .q 5 hG ?_
     refine .e1 a8 a8 ?_
     have hx:(!(a1H a ⟨(C5 a (m5 a t (D4 c.j9)).1 c.Y0).1,h2.2⟩ b.j3[(idx b.j3 (fun d=>decide (d.j9=c.j9))).toNat].j9 b.j3[(idx b.j3 (fun d=>decide (d.j9=c.j9))).toNat].l8).2)=true:=hc69
     rw [if_pos (by simpa using hx)]
    ·refine .q 2 hG ?_
     have hx69:(!(a1H a ⟨(C5 a (m5 a t (D4 c.j9)).1 c.Y0).1,h2.2⟩ b.j3[(idx b.j3 (fun d=>decide (d.j9=c.j9))).toNat].j9 b.j3[(idx b.j3 (fun d=>decide (d.j9=c.j9))).toNat].l8).2)=false:=hc69
     rw [if_neg (by simpa using hx69)]
     refine .q 6 hG ?_
     refine .p (.o9 hG (b6E _ _ _ _) (.cons (.t a8) (.cons (.t a8) (.cons (.t a8) (.cons (.t a8) .nil)))) ?_)
     refine .q 4 hG fun b18 => ?_
     refine .q 10 hG ?_
     refine .p (.o9 hG (b5H _ _ _) (.cons (.t a8) (.cons (.t a8) (.cons (.t a8) .nil))) ?_)
     refine .q 2 hG ?_
     refine .cond (.t a8) (fun hc84 => ?_) (fun hc84 => ?_)
     ·refine .q 5 hG ?_
      refine .e1 a8 a8 ?_
      have hx:((V2 a (a1H a ⟨(C5 a (m5 a t (D4 c.j9)).1 c.Y0).1,h2.2⟩ b.j3[(idx b.j3 (fun d=>decide (d.j9=c.j9))).toNat].j9 b.j3[(idx b.j3 (fun d=>decide (d.j9=c.j9))).toNat].l8).1 leaf b.Request).2&&decide ((V2 a (a1H a ⟨(C5 a (m5 a t (D4 c.j9)).1 c.Y0).1,h2.2⟩ b.j3[(idx b.j3 (fun d=>decide (d.j9=c.j9))).toNat].j9 b.j3[(idx b.j3 (fun d=>decide (d.j9=c.j9))).toNat].l8).1 leaf b.Request).1=b.j3[(idx b.j3 (fun d=>decide (d.j9=c.j9))).toNat].Proof))=false:=b1e hc84
      rw [if_pos (b5J hx)]
     ·refine .q 6 hG ?_
      refine .e1 a8 a8 ?_
      have hx:((V2 a (a1H a ⟨(C5 a (m5 a t (D4 c.j9)).1 c.Y0).1,h2.2⟩ b.j3[(idx b.j3 (fun d=>decide (d.j9=c.j9))).toNat].j9 b.j3[(idx b.j3 (fun d=>decide (d.j9=c.j9))).toNat].l8).1 leaf b.Request).2&&decide ((V2 a (a1H a ⟨(C5 a (m5 a t (D4 c.j9)).1 c.Y0).1,h2.2⟩ b.j3[(idx b.j3 (fun d=>decide (d.j9=c.j9))).toNat].j9 b.j3[(idx b.j3 (fun d=>decide (d.j9=c.j9))).toNat].l8).1 leaf b.Request).1=b.j3[(idx b.j3 (fun d=>decide (d.j9=c.j9))).toNat].Proof))=true:=b1f hc84
      rw [if_neg (by rw [b5I hx];simp)]
theorem a82 {α:Type} {l:List α} {p:α→Bool} {k:Nat} (h:k < l.length) (h1:p l[k]=true) (h2:∀ j (hj:j < l.length),j < k→p l[j]=false):l.find? p=some l[k] :=
 List.find?_eq_some_iff_getElem.2 ⟨h1,k,h,rfl,fun j hj=>by rw [h2 j (by omega) hj];rfl⟩
theorem a83 {α:Type} {l:List α} {p:α→Bool} (h:∀ j (hj:j < l.length),p l[j]=false):l.find? p=none :=
 List.find?_eq_none.2 fun x hx=>by
  obtain⟨j,hj,rfl⟩:=List.getElem_of_mem hx
  rw [h j hj];decide
theorem c2j (b:O4) (t:List UInt8):u1 gl prog 113 [.v b,.v t] (fun r=>r = .t2 (.v ((a3a b.j3 t).getD default)) (.v (a3a b.j3 t).isSome)):=by
 refine u1.jn func113 (by kernel_rfl) 28 rfl fun C hC hG => ?_
 refine .q 3 hG fun b2 => ?_
 refine .q 1 hG fun b4 => ?_
 refine .q 4 hG ?_
 refine .A8 hC .z1 (.O5 2 a8 .z1 (.del (.s .z) ?_))
 refine .q 4 hG ?_
 refine .E3 (α:=Nat) [(1,_),(2,_),(4,_)] (fun k R=>(6,.v (k:Int))::R) (Function.const _ _) (fun k=>k≤b.j3.length∧∀ j (hj:j < b.j3.length),j < k→decide (b.j3[j].j9=t)=false) (fun k=>b.j3.length - k) (0) (.c2 a8 a8 (.cons a8 (.nil _))) ?_ (.c2 a8 a8 (.c2 a8 a8 (.nil _))) (a8) fun k hF => ?_
 ·simp
 obtain⟨h1,h2⟩:=hF
 refine .q 10 hG ⟨fun hc11 => ?_,fun hc11 => ?_⟩
 ·refine .q 8 hG ?_
  refine .ix (by omega) (by omega) ?_
  refine .q 3 hG ?_
  refine .p (.o9 hG (a3Z _ _) (.cons (.t a8) (.cons (.t a8) .nil)) ?_)
  refine .q 1 hG ?_
  refine .cond (.t a8) (fun hc21 => ?_) (fun hc21 => ?_)
  ·refine .q 5 hG ?_
   refine .ix (by omega) (by omega) (.p (.G9 Z1 (.t a8) (.n (.Q1 Z1 (.t a8) (.t a8) .z (.p (.assign .b ?_))))))
   refine .q 2 hG ?_
   refine⟨_,.r2 a8 (.cell Z1 a8 .z) (.tmp a8),?_⟩
   have e:a3a b.j3 t=some b.j3[k]:=a82 (by omega) hc21 h2
   rw [e];rfl
  ·refine .q 1 hG ?_
   refine .S0 9 a8 fun hl9 => ?_
   refine .q 2 hG ?_
   refine .ad (by omega) (by omega) ?_
   refine .q 2 hG ?_
   refine⟨k+1,.c2 rfl rfl (.c2 rfl rfl (.nil _)),rfl,?_,by omega⟩
   refine⟨by omega,fun j hj hjk => ?_⟩;rcases Nat.lt_or_ge j k with h|h;exact h2 j hj h;(obtain rfl:j=k:=by omega);exact hc21
 ·refine .q 3 hG ?_
  refine .p (.bS0 (α:=p8) a8 Z1 b6b (.n (.Q1 Z1 (.t a8) (.t a8) .z (.p (.assign .b ?_)))))
  refine .q 2 hG ?_
  refine⟨_,.r2 a8 (.cell Z1 a8 .z) (.tmp a8),?_⟩
  have e:a3a b.j3 t=none:=a83 fun j hj=>h2 j hj (by omega)
  rw [e];rfl
theorem c0H (b:O4):u1 gl prog 43 [.v b] (fun r=>r = .v (a69 b)):=by
 refine u1.jn func43 (by kernel_rfl) 32 rfl fun C hC hG => ?_
 refine .q 3 hG fun b1 => ?_
 refine .q 2 hG ?_
 refine .scope ?_
 refine .q 1 hG ?_
 refine .label ?_
 refine .q 2 hG ?_
 refine .A8 hC .z (.O5 1 a8 .z (.del .z ?_))
 refine .q 7 hG ?_
 refine .E3 (α:=Nat) [(1,_),(8,_),(9,_)] (fun i R=>(10,.v (i:Int))::R) (Function.const _ _) (fun i=>i≤b.j3.length∧(b.j3.take i).any (a4T b)=false) (fun i=>b.j3.length - i) (0) (.c2 a8 a8 (.cons a8 (.nil _))) ?_ (.c2 a8 a8 (.c2 a8 a8 (.nil _))) (a8) fun i hF => ?_
 ·exact⟨Nat.zero_le _,a8⟩
 obtain⟨h1,h2⟩:=hF
 refine .q 1 hG ?_
 refine .S0 8 a8 fun hl8 => ?_
 refine .q 5 hG ⟨fun hc11 => ?_,fun hc11 => ?_⟩
 ·refine .q 5 hG ?_
  refine .ix (by omega) (by omega) ?_
  refine .q 2 hG fun b4 => ?_
  refine .q 4 hG ?_
  refine .A8 hC .z (.O5 4 a8 .z (.del .z ?_))
  have hi:i < b.j3.length:=by omega
  refine .q 7 hG ?_
  refine .E3 (α:=Nat) [(1,_),(4,_),(8,_),(9,_),(10,_),(15,_),(16,_)] (fun k R=>(17,.v (k:Int))::R) (Function.const _ _) (fun k=>k≤b.j7.length∧(b.j7.take k).any (fun c:Cav=>c.K5&&decide (c.j9=b.j3[i].j9))=false) (fun k=>b.j7.length - k) (0) (.c2 a8 a8 (.c2 a8 a8 (.c2 a8 a8 (.cons a8 (.nil _))))) ?_ (.c2 a8 a8 (.c2 a8 a8 (.c2 a8 a8 (.c2 a8 a8 (.nil _))))) (a8) fun k hF => ?_
  ·exact⟨Nat.zero_le _,a8⟩
  obtain⟨h3,h4⟩:=hF
  refine .q 1 hG ?_
  refine .S0 15 a8 fun hl15 => ?_
  refine .q 5 hG ⟨fun hc18 => ?_,fun hc18 => ?_⟩
  ·refine .q 5 hG ?_
   refine .ix (by omega) (by omega) ?_
   refine .q 2 hG fun b6 => ?_
   refine .q 3 hG ?_
   refine .A8 hC .z (.O5 6 a8 .z (.del .z ?_))
   have hk:k < b.j7.length:=by omega
   refine .q 8 hG ?_
   refine .go 23 a8 (.t a8) (fun hg28 => .o9 hG (a1c _ _) (.cons (.q a8 hg28) (.cons (.q a8 hg28) .nil)) a8) ?_
   refine .q 2 hG ?_
   refine .cond (.t a8) (fun hc29 => ?_) (fun hc29 => ?_)
   ·refine .q 1 hG ?_
    have hex:a4T b b.j3[i]=false:=(by unfold a4T;rw [List.any_eq_true.2 ⟨b.j7[k],List.getElem_mem hk,hc29⟩];rfl)
    refine .q 1 hG ?_
    refine .ad (by omega) (by omega) ?_
    refine .q 2 hG ?_
    refine⟨i+1,.c2 rfl rfl (.c2 rfl rfl (.nil _)),rfl,?_,by omega⟩
    exact⟨by omega,by rw [any_succ (a4T b) _ i hi,h2,hex];rfl⟩
   ·refine .q 2 hG ?_
    refine .ad (by omega) (by omega) ?_
    refine .q 2 hG ?_
    refine⟨k+1,.c2 rfl rfl (.c2 rfl rfl (.c2 rfl rfl (.c2 rfl rfl (.nil _)))),rfl,?_,by omega⟩
    exact⟨by omega,by rw [any_succ (fun c:Cav=>c.K5&&decide (c.j9=b.j3[i].j9)) _ k hk,h4];exact hc29⟩
  ·refine .q 6 hG ?_
   refine .e1 a8 a8 ?_
   have hex:a4T b b.j3[i]=true:=(by rw [List.take_of_length_le (by omega)] at h4;unfold a4T;rw [h4];rfl)
   have e:a69 b=true:=List.any_eq_true.2 ⟨_,List.getElem_mem hi,hex⟩
   rw [e]
 ·refine .q 6 hG ?_
  refine .e1 a8 a8 ?_
  rw [List.take_of_length_le (by omega)] at h2
  have e:a69 b=false:=h2
  rw [e]
end Go.Proofs.YtmmclghiidoldaaGreatDoor
