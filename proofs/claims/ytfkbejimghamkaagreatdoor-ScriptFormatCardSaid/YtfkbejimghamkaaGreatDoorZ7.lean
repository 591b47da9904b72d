/- Plain Lean over any program, and walks of this seat's functions: contracts, each proved once (part 7). -/
import Derived.Test.YtfkbejimghamkaaGreatDoorZ6
set_option maxRecDepth 1000000
set_option synthInstance.maxSize 1000000
set_option synthInstance.maxHeartbeats 10000000
set_option linter.unusedVariables false
set_option linter.unusedSimpArgs false
namespace Go.Proofs.YtfkbejimghamkaaGreatDoor
open Go.Proofs.Tryz
open Go.Fl Go.Ab Go.Mac Go.Sha Go.Lib
theorem a4A (raw:List Step) (deck:List Int) (at_ n:Int) (how:UInt8):y6 gl prog 3 [.v raw,.v deck,.v at_,.v n,.v how] (fun r=>r = .v true):=by
 refine y6.jn func3 (by kernel_rfl) 145 rfl fun C hC hG => ?_
 refine .q 5 hG ?_
 refine .a2m 0 a8 fun hrl => ?_
 refine .q 4 hG ?_
 refine .p (.a4C (.t a8) (.i a8) (.p (.b2S q9 underlying22 (.t a8) (.t a8) (by first|omega|(simp;done)|(simp;omega)|(simp at *;omega)) (by first|omega|(simp;done)|(simp;omega)|(simp at *;omega)) ?_)))
 refine .q 4 hG ?_
 obtain⟨R9,hR9⟩:∃ x,raw.take (min (raw.length:Int) 20).toNat=x:=⟨_,rfl⟩
 rw [hR9]
 have hr20:R9.length≤20:=(by rw [←hR9,List.length_take];omega)
 refine .q 4 hG ?_
 refine .C2 (α:=Nat) [(0,_),(1,_),(2,_),(3,_),(4,_)] (fun j R=>(11,.v (j:Int))::R) (fun j => []) (fun j=>j≤R9.length∧∀ i (h:i < R9.length),i < j→(R9[i]).l9.length≤70) (fun j=>R9.length - j) (0) (.c2 a8 a8 (.c2 a8 a8 (.cons a8 (.nil _)))) ?_ (.c2 a8 a8 (.c2 a8 a8 (.c2 a8 a8 (.nil _)))) (a8) fun j hF => ?_
 ·exact⟨Nat.zero_le _,fun i hi hij=>absurd hij (Nat.not_lt_zero _)⟩
 obtain⟨h1,h2⟩:=hF
 refine .q 9 hG ⟨fun hc30 => ?_,fun hc30 => ?_⟩
 ·refine .q 7 hG ?_
  refine .ix (by first|omega|(simp;done)|(simp;omega)|(simp at *;omega)) (by first|omega|(simp;done)|(simp;omega)|(simp at *;omega)) ?_
  refine .q 6 hG ⟨fun hc39 => ?_,fun hc39 => ?_⟩
  ·refine .q 2 hG ?_
   refine .k hG (G2) ?_
   refine .q 3 hG ?_
   refine .e1 a8 a8 ?_
   rfl
  ·refine .q 3 hG ?_
   refine .ad (by first|omega|(simp;done)|(simp;omega)|(simp at *;omega)) (by first|omega|(simp;done)|(simp;omega)|(simp at *;omega)) ?_
   refine .q 2 hG ?_
   refine⟨j+1,.c2 rfl rfl (.c2 rfl rfl (.c2 rfl rfl (.nil _))),rfl,?_,by omega⟩
   refine⟨by omega,fun i hi hij => ?_⟩;rcases Nat.lt_or_ge i j with h|h;exact h2 i hi h;(obtain rfl:i=j:=by omega);have h9:=hc39;simp only [Int.toNat_natCast] at h9;omega
 ·refine .q 4 hG ?_
  refine .p (.call hG (a7f _ _ (by decide) (by decide)) (.cons (.t a8) (.cons (.i a8) .nil)) fun r43 hr43 => ?_)
  obtain⟨l,b,rfl,hl1,hl2,hl3⟩:=hr43
  have hw0:=Int.emod_nonneg at_ (show(l.length:Int)≠0 by omega)
  have hw1:=Int.emod_lt_of_pos at_ (show 0 < (l.length:Int) by omega)
  have hR:a7g R9:=⟨fun s hs=>by obtain⟨i,hi,rfl⟩:=List.getElem_of_mem hs;have:=h2 i hi (by omega);omega,by omega⟩
  have hl:=b2B hl3 (by omega)
  refine .q 8 hG ?_
  refine .h (.buildSlice (α:=j4) q9 underlying22 .nil a8 (by decide) fun b46 => ?_)
  refine .q 1 hG ?_
  refine .ap (by first|omega|(simp;done)|(simp;omega)|(simp at *;omega)) (by first|omega|(simp;done)|(simp;omega)|(simp at *;omega)) fun w48 => ?_
  refine .q 1 hG ?_
  simp only [List.nil_append]
  refine .q 6 hG ?_
  refine .p (.L9 underlying22 a8 .z (.p (.A4 hG (I7 _ _ (by first|omega|(simp;done)|(simp;omega)|(simp at *;omega)) (by first|omega|(simp;done)|(simp;omega)|(simp at *;omega))) (.cons (.t a8) (.cons (.t a8) .nil)) (.p (.J4 q9 underlying22 a8 .z (.t a8) (by first|omega|(simp;done)|(simp;omega)|(simp at *;omega)) (by first|omega|(simp;done)|(simp;omega)|(simp at *;omega)) (.p (.a2q q9 (.t a8) .z (by first|omega|(simp;done)|(simp;omega)|(simp at *;omega)) ?_)))))))
  refine .q 1 hG fun b15 => ?_
  refine .q 1 hG ?_
  obtain⟨x0,hx0⟩:∃ x,l[(at_ % (l.length:Int)).toNat]'(by omega)=x:=⟨_,rfl⟩
  rw [hx0]
  have hx0p:x0.l9.length≤2:=(by rw [←hx0];exact(hl3 _ (List.getElem_mem _)).b1c)
  refine .q 5 hG ?_
  refine .p (.b3o (.t a8) (.u8 8 a8) (by decide) ?_)
  refine .q 8 hG ⟨fun hc58 => ?_,fun hc58 => ?_⟩
  ·refine .q 2 hG ?_
   refine .p (.A4 hG (I7 _ _ (by first|omega|(simp;done)|(simp;omega)|(simp at *;omega)) (by first|omega|(simp;done)|(simp;omega)|(simp at *;omega))) (.cons (.t a8) (.cons (.i a8) .nil)) ?_)
   refine .q 4 hG ?_
   refine .draw (by kernel_rfl) 7 [[],[],[],[(111,2)],[(110,1),(112,3)],[],[(109,0),(113,4)]] a8 (by kernel_rfl) a8 ?_
   refine⟨_,j7.move (.t a8) a8,?_⟩
   refine⟨_,j7.move (.t a8) a8,?_⟩
   refine⟨_,j7.move (.t a8) a8,?_⟩
   refine⟨_,j7.L9 underlying22 a8 .z1 a8,?_⟩
   refine⟨_,j7.A4 hG (I7 _ _ (by first|omega|(simp;done)|(simp;omega)|(simp at *;omega)) (by first|omega|(simp;done)|(simp;omega)|(simp at *;omega))) (.cons (.t a8) (.cons (.t a8) .nil)) a8,?_⟩
   refine⟨_,j7.Q4 q9 (.t a8) .z a8,?_⟩
   refine⟨_,j7.J4 q9 underlying22 a8 .z1 (.t a8) (by first|omega|(simp;done)|(simp;omega)|(simp at *;omega)) (by first|omega|(simp;done)|(simp;omega)|(simp at *;omega)) a8,?_⟩
   show C4 _ _ _ _ _ [_] ((115,_)::(114,_)::(113,_)::(112,_)::(111,_)::(110,_)::(109,_)::_) _
   refine .n (.a5P q9 (.t a8) (.t a8) .z1 (by first|omega|(simp;done)|(simp;omega)|(simp at *;omega)) ?_)
   refine .q 3 hG ?_
   refine .F0 hC .z1 (.as 14 a8 .z1 ?_)
   refine .q 4 hG ?_
   refine .bs a8 (by decide) fun b119 => .p (.L9 underlying40 a8 .z ?_)
   refine .q 3 hG ?_
   refine .C2 (α:=Nat) [(119,_),(120,_)] (fun k R=>(121,.v (k:Int))::R) (Function.const _ _) (fun k=>k≤3) (fun k=>3 - k) (0) (.c2 a8 a8 (.nil _)) ?_ (.c2 a8 a8 (.cons a8 (.nil _))) (a8) fun k hF => ?_
   ·simp
   refine .q 6 hG ⟨fun hc122 => ?_,fun hc122 => ?_⟩
   ·refine .q 5 hG ?_
    refine .p (.J4 a00 underlying40 a8 .z (.t a8) (by first|omega|(simp;done)|(simp;omega)|(simp at *;omega)) (by first|omega|(simp;done)|(simp;omega)|(simp at *;omega)) (.p (.a2q a00 (.t a8) .z (by first|omega|(simp;done)|(simp;omega)|(simp at *;omega)) ?_)))
    refine .q 5 hG ?_
    refine .k hG (Q7 _ (O4 hl hR (C0 hl (by first|omega|(dsimp only;omega)|(simp;omega))) _ _).1 (O4 hl hR (C0 hl (by first|omega|(dsimp only;omega)|(simp;omega))) _ _).2) ?_
    refine .q 9 hG ?_
    refine .k hG (K5 _ (O4 hl hR (C0 hl (by first|omega|(dsimp only;omega)|(simp;omega))) _ _).1 (O4 hl hR (C0 hl (by first|omega|(dsimp only;omega)|(simp;omega))) _ _).2) ?_
    refine .q 17 hG ?_
    refine .cond (.t a8) (fun hc142=>(by exfalso;simp at hc142)) (fun hc142 => ?_)
    refine .q 2 hG ?_
    refine .ad (by first|omega|(simp;done)|(simp;omega)|(simp at *;omega)) (by first|omega|(simp;done)|(simp;omega)|(simp at *;omega)) ?_
    refine .q 2 hG ?_
    refine⟨k+1,.c2 rfl rfl (.cons rfl (.nil _)),rfl,?_,by have h9:=hc122;simp at h9;omega⟩
    have h9:=hc122;simp at h9;omega
   ·refine .q 3 hG ?_
    refine .k hG (G2) ?_
    refine .q 3 hG ?_
    refine .e1 a8 a8 ?_
    rfl
  ·refine .q 6 hG ⟨fun hc63 => ?_,fun hc63 => ?_⟩
   ·refine .q 6 hG ?_
    refine .draw (by kernel_rfl) 7 [[],[],[],[(111,2)],[(110,1),(112,3)],[],[(109,0),(113,4)]] a8 (by kernel_rfl) a8 ?_
    refine⟨_,j7.move (.t a8) a8,?_⟩
    refine⟨_,j7.move (.t a8) a8,?_⟩
    refine⟨_,j7.move (.t a8) a8,?_⟩
    refine⟨_,j7.L9 underlying22 a8 .z1 a8,?_⟩
    refine⟨_,j7.A4 hG (I7 _ _ (by first|omega|(simp;done)|(simp;omega)|(simp at *;omega)) (by first|omega|(simp;done)|(simp;omega)|(simp at *;omega))) (.cons (.t a8) (.cons (.t a8) .nil)) a8,?_⟩
    refine⟨_,j7.Q4 q9 (.t a8) .z a8,?_⟩
    refine⟨_,j7.J4 q9 underlying22 a8 .z1 (.t a8) (by first|omega|(simp;done)|(simp;omega)|(simp at *;omega)) (by first|omega|(simp;done)|(simp;omega)|(simp at *;omega)) a8,?_⟩
    show C4 _ _ _ _ _ [_] ((115,_)::(114,_)::(113,_)::(112,_)::(111,_)::(110,_)::(109,_)::_) _
    refine .n (.a5P q9 (.t a8) (.t a8) .z1 (by first|omega|(simp;done)|(simp;omega)|(simp at *;omega)) ?_)
    refine .q 3 hG ?_
    refine .F0 hC .z1 (.as 14 a8 .z1 ?_)
    refine .q 4 hG ?_
    refine .bs a8 (by decide) fun b119 => .p (.L9 underlying40 a8 .z ?_)
    refine .q 3 hG ?_
    refine .C2 (α:=Nat) [(119,_),(120,_)] (fun k R=>(121,.v (k:Int))::R) (Function.const _ _) (fun k=>k≤3) (fun k=>3 - k) (0) (.c2 a8 a8 (.nil _)) ?_ (.c2 a8 a8 (.cons a8 (.nil _))) (a8) fun k hF => ?_
    ·simp
    refine .q 6 hG ⟨fun hc122 => ?_,fun hc122 => ?_⟩
    ·refine .q 5 hG ?_
     refine .p (.J4 a00 underlying40 a8 .z (.t a8) (by first|omega|(simp;done)|(simp;omega)|(simp at *;omega)) (by first|omega|(simp;done)|(simp;omega)|(simp at *;omega)) (.p (.a2q a00 (.t a8) .z (by first|omega|(simp;done)|(simp;omega)|(simp at *;omega)) ?_)))
     refine .q 5 hG ?_
     refine .k hG (Q7 _ (O4 hl hR (C0 hl (by first|omega|(dsimp only;omega)|(simp;omega))) _ _).1 (O4 hl hR (C0 hl (by first|omega|(dsimp only;omega)|(simp;omega))) _ _).2) ?_
     refine .q 9 hG ?_
     refine .k hG (K5 _ (O4 hl hR (C0 hl (by first|omega|(dsimp only;omega)|(simp;omega))) _ _).1 (O4 hl hR (C0 hl (by first|omega|(dsimp only;omega)|(simp;omega))) _ _).2) ?_
     refine .q 17 hG ?_
     refine .cond (.t a8) (fun hc142=>(by exfalso;simp at hc142)) (fun hc142 => ?_)
     refine .q 2 hG ?_
     refine .ad (by first|omega|(simp;done)|(simp;omega)|(simp at *;omega)) (by first|omega|(simp;done)|(simp;omega)|(simp at *;omega)) ?_
     refine .q 2 hG ?_
     refine⟨k+1,.c2 rfl rfl (.cons rfl (.nil _)),rfl,?_,by have h9:=hc122;simp at h9;omega⟩
     have h9:=hc122;simp at h9;omega
    ·refine .q 3 hG ?_
     refine .k hG (G2) ?_
     refine .q 3 hG ?_
     refine .e1 a8 a8 ?_
     rfl
   ·refine .q 6 hG ⟨fun hc67 => ?_,fun hc67 => ?_⟩
    ·refine .q 6 hG ?_
     refine .draw (by kernel_rfl) 7 [[],[],[],[(111,2)],[(110,1),(112,3)],[],[(109,0),(113,4)]] a8 (by kernel_rfl) a8 ?_
     refine⟨_,j7.move (.t a8) a8,?_⟩
     refine⟨_,j7.move (.t a8) a8,?_⟩
     refine⟨_,j7.move (.t a8) a8,?_⟩
     refine⟨_,j7.L9 underlying22 a8 .z1 a8,?_⟩
     refine⟨_,j7.A4 hG (I7 _ _ (by first|omega|(simp;done)|(simp;omega)|(simp at *;omega)) (by first|omega|(simp;done)|(simp;omega)|(simp at *;omega))) (.cons (.t a8) (.cons (.t a8) .nil)) a8,?_⟩
     refine⟨_,j7.Q4 q9 (.t a8) .z a8,?_⟩
     refine⟨_,j7.J4 q9 underlying22 a8 .z1 (.t a8) (by first|omega|(simp;done)|(simp;omega)|(simp at *;omega)) (by first|omega|(simp;done)|(simp;omega)|(simp at *;omega)) a8,?_⟩
     show C4 _ _ _ _ _ [_] ((115,_)::(114,_)::(113,_)::(112,_)::(111,_)::(110,_)::(109,_)::_) _
     refine .n (.a5P q9 (.t a8) (.t a8) .z1 (by first|omega|(simp;done)|(simp;omega)|(simp at *;omega)) ?_)
     refine .q 3 hG ?_
     refine .F0 hC .z1 (.as 14 a8 .z1 ?_)
     refine .q 4 hG ?_
     refine .bs a8 (by decide) fun b119 => .p (.L9 underlying40 a8 .z ?_)
     refine .q 3 hG ?_
     refine .C2 (α:=Nat) [(119,_),(120,_)] (fun k R=>(121,.v (k:Int))::R) (Function.const _ _) (fun k=>k≤3) (fun k=>3 - k) (0) (.c2 a8 a8 (.nil _)) ?_ (.c2 a8 a8 (.cons a8 (.nil _))) (a8) fun k hF => ?_
     ·simp
     refine .q 6 hG ⟨fun hc122 => ?_,fun hc122 => ?_⟩
     ·refine .q 5 hG ?_
      refine .p (.J4 a00 underlying40 a8 .z (.t a8) (by first|omega|(simp;done)|(simp;omega)|(simp at *;omega)) (by first|omega|(simp;done)|(simp;omega)|(simp at *;omega)) (.p (.a2q a00 (.t a8) .z (by first|omega|(simp;done)|(simp;omega)|(simp at *;omega)) ?_)))
      refine .q 5 hG ?_
      refine .k hG (Q7 _ (O4 hl hR (C0 hl (by first|omega|(dsimp only;omega)|(simp;omega))) _ _).1 (O4 hl hR (C0 hl (by first|omega|(dsimp only;omega)|(simp;omega))) _ _).2) ?_
      refine .q 9 hG ?_
      refine .k hG (K5 _ (O4 hl hR (C0 hl (by first|omega|(dsimp only;omega)|(simp;omega))) _ _).1 (O4 hl hR (C0 hl (by first|omega|(dsimp only;omega)|(simp;omega))) _ _).2) ?_
      refine .q 17 hG ?_
      refine .cond (.t a8) (fun hc142=>(by exfalso;simp at hc142)) (fun hc142 => ?_)
      refine .q 2 hG ?_
      refine .ad (by first|omega|(simp;done)|(simp;omega)|(simp at *;omega)) (by first|omega|(simp;done)|(simp;omega)|(simp at *;omega)) ?_
      refine .q 2 hG ?_
      refine⟨k+1,.c2 rfl rfl (.cons rfl (.nil _)),rfl,?_,by have h9:=hc122;simp at h9;omega⟩
      have h9:=hc122;simp at h9;omega
     ·refine .q 3 hG ?_
      refine .k hG (G2) ?_
      refine .q 3 hG ?_
      refine .e1 a8 a8 ?_
      rfl
    ·refine .q 6 hG ⟨fun hc71 => ?_,fun hc71 => ?_⟩
     ·refine .q 6 hG ?_
      refine .draw (by kernel_rfl) 7 [[],[],[],[(111,2)],[(110,1),(112,3)],[],[(109,0),(113,4)]] a8 (by kernel_rfl) a8 ?_
      refine⟨_,j7.move (.t a8) a8,?_⟩
      refine⟨_,j7.move (.t a8) a8,?_⟩
      refine⟨_,j7.move (.t a8) a8,?_⟩
      refine⟨_,j7.L9 underlying22 a8 .z1 a8,?_⟩
      refine⟨_,j7.A4 hG (I7 _ _ (by first|omega|(simp;done)|(simp;omega)|(simp at *;omega)) (by first|omega|(simp;done)|(simp;omega)|(simp at *;omega))) (.cons (.t a8) (.cons (.t a8) .nil)) a8,?_⟩
      refine⟨_,j7.Q4 q9 (.t a8) .z a8,?_⟩
      refine⟨_,j7.J4 q9 underlying22 a8 .z1 (.t a8) (by first|omega|(simp;done)|(simp;omega)|(simp at *;omega)) (by first|omega|(simp;done)|(simp;omega)|(simp at *;omega)) a8,?_⟩
      show C4 _ _ _ _ _ [_] ((115,_)::(114,_)::(113,_)::(112,_)::(111,_)::(110,_)::(109,_)::_) _
      refine .n (.a5P q9 (.t a8) (.t a8) .z1 (by first|omega|(simp;done)|(simp;omega)|(simp at *;omega)) ?_)
      refine .q 3 hG ?_
      refine .F0 hC .z1 (.as 14 a8 .z1 ?_)
      refine .q 4 hG ?_
      refine .bs a8 (by decide) fun b119 => .p (.L9 underlying40 a8 .z ?_)
      refine .q 3 hG ?_
      refine .C2 (α:=Nat) [(119,_),(120,_)] (fun k R=>(121,.v (k:Int))::R) (Function.const _ _) (fun k=>k≤3) (fun k=>3 - k) (0) (.c2 a8 a8 (.nil _)) ?_ (.c2 a8 a8 (.cons a8 (.nil _))) (a8) fun k hF => ?_
      ·simp
      refine .q 6 hG ⟨fun hc122 => ?_,fun hc122 => ?_⟩
      ·refine .q 5 hG ?_
       refine .p (.J4 a00 underlying40 a8 .z (.t a8) (by first|omega|(simp;done)|(simp;omega)|(simp at *;omega)) (by first|omega|(simp;done)|(simp;omega)|(simp at *;omega)) (.p (.a2q a00 (.t a8) .z (by first|omega|(simp;done)|(simp;omega)|(simp at *;omega)) ?_)))
       refine .q 5 hG ?_
       refine .k hG (Q7 _ (O4 hl hR (C0 hl (by first|omega|(dsimp only;omega)|(simp;omega))) _ _).1 (O4 hl hR (C0 hl (by first|omega|(dsimp only;omega)|(simp;omega))) _ _).2) ?_
       refine .q 9 hG ?_
       refine .k hG (K5 _ (O4 hl hR (C0 hl (by first|omega|(dsimp only;omega)|(simp;omega))) _ _).1 (O4 hl hR (C0 hl (by first|omega|(dsimp only;omega)|(simp;omega))) _ _).2) ?_
       refine .q 17 hG ?_
       refine .cond (.t a8) (fun hc142=>(by exfalso;simp at hc142)) (fun hc142 => ?_)
       refine .q 2 hG ?_
       refine .ad (by first|omega|(simp;done)|(simp;omega)|(simp at *;omega)) (by first|omega|(simp;done)|(simp;omega)|(simp at *;omega)) ?_
       refine .q 2 hG ?_
       refine⟨k+1,.c2 rfl rfl (.cons rfl (.nil _)),rfl,?_,by have h9:=hc122;simp at h9;omega⟩
       have h9:=hc122;simp at h9;omega
      ·refine .q 3 hG ?_
       refine .k hG (G2) ?_
       refine .q 3 hG ?_
       refine .e1 a8 a8 ?_
       rfl
     ·refine .q 6 hG ⟨fun hc75 => ?_,fun hc75 => ?_⟩
      ·refine .q 7 hG ?_
       refine .draw (by kernel_rfl) 7 [[],[],[],[(111,2)],[(110,1),(112,3)],[],[(109,0),(113,4)]] a8 (by kernel_rfl) a8 ?_
       refine⟨_,j7.move (.t a8) a8,?_⟩
       refine⟨_,j7.move (.t a8) a8,?_⟩
       refine⟨_,j7.move (.t a8) a8,?_⟩
       refine⟨_,j7.L9 underlying22 a8 .z1 a8,?_⟩
       refine⟨_,j7.A4 hG (I7 _ _ (by first|omega|(simp;done)|(simp;omega)|(simp at *;omega)) (by first|omega|(simp;done)|(simp;omega)|(simp at *;omega))) (.cons (.t a8) (.cons (.t a8) .nil)) a8,?_⟩
       refine⟨_,j7.Q4 q9 (.t a8) .z a8,?_⟩
       refine⟨_,j7.J4 q9 underlying22 a8 .z1 (.t a8) (by first|omega|(simp;done)|(simp;omega)|(simp at *;omega)) (by first|omega|(simp;done)|(simp;omega)|(simp at *;omega)) a8,?_⟩
       show C4 _ _ _ _ _ [_] ((115,_)::(114,_)::(113,_)::(112,_)::(111,_)::(110,_)::(109,_)::_) _
       refine .n (.a5P q9 (.t a8) (.t a8) .z1 (by first|omega|(simp;done)|(simp;omega)|(simp at *;omega)) ?_)
       refine .q 3 hG ?_
       refine .F0 hC .z1 (.as 14 a8 .z1 ?_)
       refine .q 4 hG ?_
       refine .bs a8 (by decide) fun b119 => .p (.L9 underlying40 a8 .z ?_)
       refine .q 3 hG ?_
       refine .C2 (α:=Nat) [(119,_),(120,_)] (fun k R=>(121,.v (k:Int))::R) (Function.const _ _) (fun k=>k≤3) (fun k=>3 - k) (0) (.c2 a8 a8 (.nil _)) ?_ (.c2 a8 a8 (.cons a8 (.nil _))) (a8) fun k hF => ?_
       ·simp
       refine .q 6 hG ⟨fun hc122 => ?_,fun hc122 => ?_⟩
       ·refine .q 5 hG ?_
        refine .p (.J4 a00 underlying40 a8 .z (.t a8) (by first|omega|(simp;done)|(simp;omega)|(simp at *;omega)) (by first|omega|(simp;done)|(simp;omega)|(simp at *;omega)) (.p (.a2q a00 (.t a8) .z (by first|omega|(simp;done)|(simp;omega)|(simp at *;omega)) ?_)))
        refine .q 5 hG ?_
        refine .k hG (Q7 _ (O4 hl hR (C0 hl (by first|omega|(dsimp only;omega)|(simp;omega))) _ _).1 (O4 hl hR (C0 hl (by first|omega|(dsimp only;omega)|(simp;omega))) _ _).2) ?_
        refine .q 9 hG ?_
        refine .k hG (K5 _ (O4 hl hR (C0 hl (by first|omega|(dsimp only;omega)|(simp;omega))) _ _).1 (O4 hl hR (C0 hl (by first|omega|(dsimp only;omega)|(simp;omega))) _ _).2) ?_
        refine .q 17 hG ?_
        refine .cond (.t a8) (fun hc142=>(by exfalso;simp at hc142)) (fun hc142 => ?_)
        refine .q 2 hG ?_
        refine .ad (by first|omega|(simp;done)|(simp;omega)|(simp at *;omega)) (by first|omega|(simp;done)|(simp;omega)|(simp at *;omega)) ?_
        refine .q 2 hG ?_
        refine⟨k+1,.c2 rfl rfl (.cons rfl (.nil _)),rfl,?_,by have h9:=hc122;simp at h9;omega⟩
        have h9:=hc122;simp at h9;omega
       ·refine .q 3 hG ?_
        refine .k hG (G2) ?_
        refine .q 3 hG ?_
        refine .e1 a8 a8 ?_
        rfl
      ·refine .q 6 hG ⟨fun hc80 => ?_,fun hc80 => ?_⟩
       ·refine .q 1 hG ?_
        refine .bs a8 (by decide) fun b82 => ?_
        refine .q 1 hG ?_
        refine .p (.A4 hG (I7 _ _ (by first|omega|(simp;done)|(simp;omega)|(simp at *;omega)) (by first|omega|(simp;done)|(simp;omega)|(simp at *;omega))) (.cons (.t a8) (.cons (.i a8) .nil)) (.p (.J4 ty9 underlying36 a8 .z (.t a8) (by first|omega|(simp;done)|(simp;omega)|(simp at *;omega)) (by first|omega|(simp;done)|(simp;omega)|(simp at *;omega)) (.p (.a2q ty9 (.t a8) .z (by first|omega|(simp;done)|(simp;omega)|(simp at *;omega)) ?_)))))
        refine .q 4 hG ?_
        refine .draw (by kernel_rfl) 7 [[],[],[],[(111,2)],[(110,1),(112,3)],[],[(109,0),(113,4)]] a8 (by kernel_rfl) a8 ?_
        refine⟨_,j7.move (.t a8) a8,?_⟩
        refine⟨_,j7.move (.t a8) a8,?_⟩
        refine⟨_,j7.move (.t a8) a8,?_⟩
        refine⟨_,j7.L9 underlying22 a8 .z2 a8,?_⟩
        refine⟨_,j7.A4 hG (I7 _ _ (by first|omega|(simp;done)|(simp;omega)|(simp at *;omega)) (by first|omega|(simp;done)|(simp;omega)|(simp at *;omega))) (.cons (.t a8) (.cons (.t a8) .nil)) a8,?_⟩
        refine⟨_,j7.Q4 q9 (.t a8) .z1 a8,?_⟩
        refine⟨_,j7.J4 q9 underlying22 a8 .z2 (.t a8) (by first|omega|(simp;done)|(simp;omega)|(simp at *;omega)) (by first|omega|(simp;done)|(simp;omega)|(simp at *;omega)) a8,?_⟩
        show C4 _ _ _ _ _ [_] ((115,_)::(114,_)::(113,_)::(112,_)::(111,_)::(110,_)::(109,_)::_) _
        refine .n (.a5P q9 (.t a8) (.t a8) .z2 (by first|omega|(simp;done)|(simp;omega)|(simp at *;omega)) ?_)
        refine .q 3 hG ?_
        refine .F0 hC .z2 (.as 14 a8 .z2 ?_)
        refine .q 4 hG ?_
        refine .bs a8 (by decide) fun b119 => .p (.L9 underlying40 a8 .z ?_)
        refine .q 3 hG ?_
        refine .C2 (α:=Nat) [(119,_),(120,_)] (fun k R=>(121,.v (k:Int))::R) (Function.const _ _) (fun k=>k≤3) (fun k=>3 - k) (0) (.c2 a8 a8 (.nil _)) ?_ (.c2 a8 a8 (.cons a8 (.nil _))) (a8) fun k hF => ?_
        ·simp
        refine .q 6 hG ⟨fun hc122 => ?_,fun hc122 => ?_⟩
        ·refine .q 5 hG ?_
         refine .p (.J4 a00 underlying40 a8 .z (.t a8) (by first|omega|(simp;done)|(simp;omega)|(simp at *;omega)) (by first|omega|(simp;done)|(simp;omega)|(simp at *;omega)) (.p (.a2q a00 (.t a8) .z (by first|omega|(simp;done)|(simp;omega)|(simp at *;omega)) ?_)))
         refine .q 5 hG ?_
         refine .k hG (Q7 _ (O4 hl hR (C0 hl (by first|omega|(dsimp only;omega)|(simp;omega))) _ _).1 (O4 hl hR (C0 hl (by first|omega|(dsimp only;omega)|(simp;omega))) _ _).2) ?_
         refine .q 9 hG ?_
         refine .k hG (K5 _ (O4 hl hR (C0 hl (by first|omega|(dsimp only;omega)|(simp;omega))) _ _).1 (O4 hl hR (C0 hl (by first|omega|(dsimp only;omega)|(simp;omega))) _ _).2) ?_
         refine .q 17 hG ?_
         refine .cond (.t a8) (fun hc142=>(by exfalso;simp at hc142)) (fun hc142 => ?_)
         refine .q 2 hG ?_
         refine .ad (by first|omega|(simp;done)|(simp;omega)|(simp at *;omega)) (by first|omega|(simp;done)|(simp;omega)|(simp at *;omega)) ?_
         refine .q 2 hG ?_
         refine⟨k+1,.c2 rfl rfl (.cons rfl (.nil _)),rfl,?_,by have h9:=hc122;simp at h9;omega⟩
         have h9:=hc122;simp at h9;omega
        ·refine .q 3 hG ?_
         refine .k hG (G2) ?_
         refine .q 3 hG ?_
         refine .e1 a8 a8 ?_
         rfl
       ·refine .q 6 hG ⟨fun hc88 => ?_,fun hc88 => ?_⟩
        ·refine .q 1 hG ?_
         refine .bs a8 (by decide) fun b90 => ?_
         refine .q 1 hG ?_
         refine .p (.A4 hG (I7 _ _ (by first|omega|(simp;done)|(simp;omega)|(simp at *;omega)) (by first|omega|(simp;done)|(simp;omega)|(simp at *;omega))) (.cons (.t a8) (.cons (.i a8) .nil)) (.p (.J4 ty9 underlying36 a8 .z (.t a8) (by first|omega|(simp;done)|(simp;omega)|(simp at *;omega)) (by first|omega|(simp;done)|(simp;omega)|(simp at *;omega)) (.p (.a2q ty9 (.t a8) .z (by first|omega|(simp;done)|(simp;omega)|(simp at *;omega)) ?_)))))
         refine .q 5 hG ?_
         refine .draw (by kernel_rfl) 7 [[],[],[],[(111,2)],[(110,1),(112,3)],[],[(109,0),(113,4)]] a8 (by kernel_rfl) a8 ?_
         refine⟨_,j7.move (.t a8) a8,?_⟩
         refine⟨_,j7.move (.t a8) a8,?_⟩
         refine⟨_,j7.move (.t a8) a8,?_⟩
         refine⟨_,j7.L9 underlying22 a8 .z2 a8,?_⟩
         refine⟨_,j7.A4 hG (I7 _ _ (by first|omega|(simp;done)|(simp;omega)|(simp at *;omega)) (by first|omega|(simp;done)|(simp;omega)|(simp at *;omega))) (.cons (.t a8) (.cons (.t a8) .nil)) a8,?_⟩
         refine⟨_,j7.Q4 q9 (.t a8) .z1 a8,?_⟩
         refine⟨_,j7.J4 q9 underlying22 a8 .z2 (.t a8) (by first|omega|(simp;done)|(simp;omega)|(simp at *;omega)) (by first|omega|(simp;done)|(simp;omega)|(simp at *;omega)) a8,?_⟩
         show C4 _ _ _ _ _ [_] ((115,_)::(114,_)::(113,_)::(112,_)::(111,_)::(110,_)::(109,_)::_) _
         refine .n (.a5P q9 (.t a8) (.t a8) .z2 (by first|omega|(simp;done)|(simp;omega)|(simp at *;omega)) ?_)
         refine .q 3 hG ?_
         refine .F0 hC .z2 (.as 14 a8 .z2 ?_)
         refine .q 4 hG ?_
         refine .bs a8 (by decide) fun b119 => .p (.L9 underlying40 a8 .z ?_)
         refine .q 3 hG ?_
         refine .C2 (α:=Nat) [(119,_),(120,_)] (fun k R=>(121,.v (k:Int))::R) (Function.const _ _) (fun k=>k≤3) (fun k=>3 - k) (0) (.c2 a8 a8 (.nil _)) ?_ (.c2 a8 a8 (.cons a8 (.nil _))) (a8) fun k hF => ?_
         ·simp
         refine .q 6 hG ⟨fun hc122 => ?_,fun hc122 => ?_⟩
         ·refine .q 5 hG ?_
          refine .p (.J4 a00 underlying40 a8 .z (.t a8) (by first|omega|(simp;done)|(simp;omega)|(simp at *;omega)) (by first|omega|(simp;done)|(simp;omega)|(simp at *;omega)) (.p (.a2q a00 (.t a8) .z (by first|omega|(simp;done)|(simp;omega)|(simp at *;omega)) ?_)))
          refine .q 5 hG ?_
          refine .k hG (Q7 _ (O4 hl hR (C0 hl (by first|omega|(dsimp only;omega)|(simp;omega))) _ _).1 (O4 hl hR (C0 hl (by first|omega|(dsimp only;omega)|(simp;omega))) _ _).2) ?_
          refine .q 9 hG ?_
          refine .k hG (K5 _ (O4 hl hR (C0 hl (by first|omega|(dsimp only;omega)|(simp;omega))) _ _).1 (O4 hl hR (C0 hl (by first|omega|(dsimp only;omega)|(simp;omega))) _ _).2) ?_
          refine .q 17 hG ?_
          refine .cond (.t a8) (fun hc142=>(by exfalso;simp at hc142)) (fun hc142 => ?_)
          refine .q 2 hG ?_
          refine .ad (by first|omega|(simp;done)|(simp;omega)|(simp at *;omega)) (by first|omega|(simp;done)|(simp;omega)|(simp at *;omega)) ?_
          refine .q 2 hG ?_
          refine⟨k+1,.c2 rfl rfl (.cons rfl (.nil _)),rfl,?_,by have h9:=hc122;simp at h9;omega⟩
          have h9:=hc122;simp at h9;omega
         ·refine .q 3 hG ?_
          refine .k hG (G2) ?_
          refine .q 3 hG ?_
          refine .e1 a8 a8 ?_
          rfl
        ·refine .q 6 hG ⟨fun hc97 => ?_,fun hc97 => ?_⟩
         ·refine .q 1 hG ?_
          refine .h (.buildSlice (α:=j3) E6 underlying24 .nil a8 (by decide) fun b99 => ?_)
          refine .q 2 hG ?_
          refine .ap (by first|omega|(simp;done)|(simp;omega)|(simp at *;omega)) (by first|omega|(simp;done)|(simp;omega)|(simp at *;omega)) fun w102 => ?_
          refine .q 1 hG ?_
          refine .p (.A4 hG (I7 _ _ (by first|omega|(simp;done)|(simp;omega)|(simp at *;omega)) (by first|omega|(simp;done)|(simp;omega)|(simp at *;omega))) (.cons (.t a8) (.cons (.i a8) .nil)) (.p (.bS2 j3.l0 j3.l1 a8 E6 a0B (fun c0 c1=>(⟨c0,c1,0,0,⟨[]⟩,0⟩:j3)) (fun _ _=>a8) a8 a8 a8 (.t a8) (.u64 1 a8) ?_)))
          refine .bs a8 (by decide) fun b106 => ?_
          refine .ap (by first|omega|(simp;done)|(simp;omega)|(simp at *;omega)) (by first|omega|(simp;done)|(simp;omega)|(simp at *;omega)) fun w107 => ?_
          refine .q 1 hG ?_
          refine .F0 hC .z1 (.as 107 a8 .z1 ?_)
          refine .q 3 hG ?_
          refine .draw (by kernel_rfl) 7 [[],[],[],[(111,2)],[(110,1),(112,3)],[],[(109,0),(113,4)]] a8 (by kernel_rfl) a8 ?_
          refine⟨_,j7.move (.t a8) a8,?_⟩
          refine⟨_,j7.move (.t a8) a8,?_⟩
          refine⟨_,j7.move (.t a8) a8,?_⟩
          refine⟨_,j7.L9 underlying22 a8 .z3 a8,?_⟩
          refine⟨_,j7.A4 hG (I7 _ _ (by first|omega|(simp;done)|(simp;omega)|(simp at *;omega)) (by first|omega|(simp;done)|(simp;omega)|(simp at *;omega))) (.cons (.t a8) (.cons (.t a8) .nil)) a8,?_⟩
          refine⟨_,j7.Q4 q9 (.t a8) .z2 a8,?_⟩
          refine⟨_,j7.J4 q9 underlying22 a8 .z3 (.t a8) (by first|omega|(simp;done)|(simp;omega)|(simp at *;omega)) (by first|omega|(simp;done)|(simp;omega)|(simp at *;omega)) a8,?_⟩
          show C4 _ _ _ _ _ [_] ((115,_)::(114,_)::(113,_)::(112,_)::(111,_)::(110,_)::(109,_)::_) _
          refine .n (.a5P q9 (.t a8) (.t a8) .z3 (by first|omega|(simp;done)|(simp;omega)|(simp at *;omega)) ?_)
          refine .q 3 hG ?_
          refine .F0 hC .z3 (.as 14 a8 .z3 ?_)
          refine .q 4 hG ?_
          refine .bs a8 (by decide) fun b119 => .p (.L9 underlying40 a8 .z ?_)
          refine .q 3 hG ?_
          refine .C2 (α:=Nat) [(119,_),(120,_)] (fun k R=>(121,.v (k:Int))::R) (Function.const _ _) (fun k=>k≤3) (fun k=>3 - k) (0) (.c2 a8 a8 (.nil _)) ?_ (.c2 a8 a8 (.cons a8 (.nil _))) (a8) fun k hF => ?_
          ·simp
          refine .q 6 hG ⟨fun hc122 => ?_,fun hc122 => ?_⟩
          ·refine .q 5 hG ?_
           refine .p (.J4 a00 underlying40 a8 .z (.t a8) (by first|omega|(simp;done)|(simp;omega)|(simp at *;omega)) (by first|omega|(simp;done)|(simp;omega)|(simp at *;omega)) (.p (.a2q a00 (.t a8) .z (by first|omega|(simp;done)|(simp;omega)|(simp at *;omega)) ?_)))
           refine .q 5 hG ?_
           refine .k hG (Q7 _ (O4 hl hR (C0 hl (by first|omega|(dsimp only;omega)|(simp;omega))) _ _).1 (O4 hl hR (C0 hl (by first|omega|(dsimp only;omega)|(simp;omega))) _ _).2) ?_
           refine .q 9 hG ?_
           refine .k hG (K5 _ (O4 hl hR (C0 hl (by first|omega|(dsimp only;omega)|(simp;omega))) _ _).1 (O4 hl hR (C0 hl (by first|omega|(dsimp only;omega)|(simp;omega))) _ _).2) ?_
           refine .q 17 hG ?_
           refine .cond (.t a8) (fun hc142=>(by exfalso;simp at hc142)) (fun hc142 => ?_)
           refine .q 2 hG ?_
           refine .ad (by first|omega|(simp;done)|(simp;omega)|(simp at *;omega)) (by first|omega|(simp;done)|(simp;omega)|(simp at *;omega)) ?_
           refine .q 2 hG ?_
           refine⟨k+1,.c2 rfl rfl (.cons rfl (.nil _)),rfl,?_,by have h9:=hc122;simp at h9;omega⟩
           have h9:=hc122;simp at h9;omega
          ·refine .q 3 hG ?_
           refine .k hG (G2) ?_
           refine .q 3 hG ?_
           refine .e1 a8 a8 ?_
           rfl
         ·refine .q 2 hG ?_
          refine .draw (by kernel_rfl) 7 [[],[],[],[(111,2)],[(110,1),(112,3)],[],[(109,0),(113,4)]] a8 (by kernel_rfl) a8 ?_
          refine⟨_,j7.move (.t a8) a8,?_⟩
          refine⟨_,j7.move (.t a8) a8,?_⟩
          refine⟨_,j7.move (.t a8) a8,?_⟩
          refine⟨_,j7.L9 underlying22 a8 .z1 a8,?_⟩
          refine⟨_,j7.A4 hG (I7 _ _ (by first|omega|(simp;done)|(simp;omega)|(simp at *;omega)) (by first|omega|(simp;done)|(simp;omega)|(simp at *;omega))) (.cons (.t a8) (.cons (.t a8) .nil)) a8,?_⟩
          refine⟨_,j7.Q4 q9 (.t a8) .z a8,?_⟩
          refine⟨_,j7.J4 q9 underlying22 a8 .z1 (.t a8) (by first|omega|(simp;done)|(simp;omega)|(simp at *;omega)) (by first|omega|(simp;done)|(simp;omega)|(simp at *;omega)) a8,?_⟩
          show C4 _ _ _ _ _ [_] ((115,_)::(114,_)::(113,_)::(112,_)::(111,_)::(110,_)::(109,_)::_) _
          refine .n (.a5P q9 (.t a8) (.t a8) .z1 (by first|omega|(simp;done)|(simp;omega)|(simp at *;omega)) ?_)
          refine .q 3 hG ?_
          refine .F0 hC .z1 (.as 14 a8 .z1 ?_)
          refine .q 4 hG ?_
          refine .bs a8 (by decide) fun b119 => .p (.L9 underlying40 a8 .z ?_)
          refine .q 3 hG ?_
          refine .C2 (α:=Nat) [(119,_),(120,_)] (fun k R=>(121,.v (k:Int))::R) (Function.const _ _) (fun k=>k≤3) (fun k=>3 - k) (0) (.c2 a8 a8 (.nil _)) ?_ (.c2 a8 a8 (.cons a8 (.nil _))) (a8) fun k hF => ?_
          ·simp
          refine .q 6 hG ⟨fun hc122 => ?_,fun hc122 => ?_⟩
          ·refine .q 5 hG ?_
           refine .p (.J4 a00 underlying40 a8 .z (.t a8) (by first|omega|(simp;done)|(simp;omega)|(simp at *;omega)) (by first|omega|(simp;done)|(simp;omega)|(simp at *;omega)) (.p (.a2q a00 (.t a8) .z (by first|omega|(simp;done)|(simp;omega)|(simp at *;omega)) ?_)))
           refine .q 5 hG ?_
           refine .k hG (Q7 _ (O4 hl hR (C0 hl (by first|omega|(dsimp only;omega)|(simp;omega))) _ _).1 (O4 hl hR (C0 hl (by first|omega|(dsimp only;omega)|(simp;omega))) _ _).2) ?_
           refine .q 9 hG ?_
           refine .k hG (K5 _ (O4 hl hR (C0 hl (by first|omega|(dsimp only;omega)|(simp;omega))) _ _).1 (O4 hl hR (C0 hl (by first|omega|(dsimp only;omega)|(simp;omega))) _ _).2) ?_
           refine .q 17 hG ?_
           refine .cond (.t a8) (fun hc142=>(by exfalso;simp at hc142)) (fun hc142 => ?_)
           refine .q 2 hG ?_
           refine .ad (by first|omega|(simp;done)|(simp;omega)|(simp at *;omega)) (by first|omega|(simp;done)|(simp;omega)|(simp at *;omega)) ?_
           refine .q 2 hG ?_
           refine⟨k+1,.c2 rfl rfl (.cons rfl (.nil _)),rfl,?_,by have h9:=hc122;simp at h9;omega⟩
           have h9:=hc122;simp at h9;omega
          ·refine .q 3 hG ?_
           refine .k hG (G2) ?_
           refine .q 3 hG ?_
           refine .e1 a8 a8 ?_
           rfl
end Go.Proofs.YtfkbejimghamkaaGreatDoor
