/- Law 01: State, and the statements' functions ShaState, ShaParts, ShaSum, ShaBorders return true. -/
import Derived.Test.YtlohppddhbimnaaDoorLaw1
import Derived.Test.YtlohppddhbimnaaDoorLaw2
set_option linter.unusedVariables false
set_option linter.unusedSimpArgs false
namespace Go.Proofs.YtlohppddhbimnaaDoor
open Go.Fl Go.Ab Go.Mac Go.Sha
theorem short_c (b : List UInt8) : FunA gl Tryd.prog 12 [.v b] (fun r => r = .v (b.take 700)) := fun I vs hG hvs => by
  obtain ⟨u, r, rfl, hu, rfl⟩ := hvs
  exact (short_fun I u b (bytes_open hu)).mono fun v J hle hv => ⟨_, bytes_close hv, rfl⟩
theorem awake1_c : FunA gl Tryd.prog 15 [] (fun r => r = .v true) := fun I vs hG hvs => by
  cases hvs
  exact (awake_fun I hG).mono fun v J hle hv => ⟨.v true, ⟨_, rfl, hv⟩, rfl⟩
theorem same_c (a b : G_api_Hash) : FunA gl Tryd.prog 16 [.v a, .v b] (fun r => r = .v (decide (a = b))) := by
  refine FunA.intro Tryd.func16 rfl (by kernel_rfl) 24 rfl rfl _ rfl fun C hC hG => ?_
  refine .seq ?_
  refine .region rfl ?_
  refine .h (.box (.t rfl) fun b2 => .h (.box (.t rfl) fun b3 => .p (.assign .b ?_)))
  refine .nil ?_
  refine .seq ?_
  refine .region rfl ?_
  refine .p (.fldW G_api_Hash.l0 fd34_0 rfl (.t rfl) (.p (.ldF (fun x => x.H) ty32 (.t rfl) (.s .z) (fun _ => rfl) (.p (.fldW G_api_Hash.l0 fd34_0 rfl (.t rfl) (.p (.ldF (fun x => x.H) ty32 (.t rfl) .z (fun _ => rfl) (.p (.eqlA32 Tryd.underlying32 sz31 Tryd.underlying31 gd32 (.t rfl) (.t rfl) (.p (.move (.t rfl) ?_)))))))))))
  refine .go 10 rfl (.t rfl) (fun hg11 => .fldW G_api_Hash.l2 fd34_2 rfl (.t rfl) rfl) ?_
  refine .go 10 rfl (.t rfl) (fun hg12 => .ldF (fun x => x.Len) ty3 (.o rfl (beq_iff_eq.2 hg12)) (.s .z) (fun _ => rfl) rfl) ?_
  refine .go 10 rfl (.t rfl) (fun hg13 => .fldW G_api_Hash.l2 fd34_2 rfl (.t rfl) rfl) ?_
  refine .go 10 rfl (.t rfl) (fun hg14 => .ldF (fun x => x.Len) ty3 (.o rfl (beq_iff_eq.2 hg14)) .z (fun _ => rfl) rfl) ?_
  refine .go 10 rfl (.t rfl) (fun hg15 => .eqlI (.o rfl (beq_iff_eq.2 hg15)) (.o rfl (beq_iff_eq.2 hg15)) rfl) ?_
  refine .p (.pickAnd (.t rfl) (fun hp => (.o rfl (beq_iff_eq.2 hp))) (.p (.move (.t rfl) ?_)))
  refine .go 17 rfl (.t rfl) (fun hg18 => .fldW G_api_Hash.l1 fd34_1 rfl (.t rfl) rfl) ?_
  refine .go 17 rfl (.t rfl) (fun hg19 => .ldF (fun x => x.Rest) ty22 (.o rfl (beq_iff_eq.2 hg19)) (.s .z) (fun _ => rfl) rfl) ?_
  refine .go 17 rfl (.t rfl) (fun hg20 => .fldW G_api_Hash.l1 fd34_1 rfl (.t rfl) rfl) ?_
  refine .go 17 rfl (.t rfl) (fun hg21 => .ldF (fun x => x.Rest) ty22 (.o rfl (beq_iff_eq.2 hg21)) .z (fun _ => rfl) rfl) ?_
  refine .go 17 rfl (.t rfl) (fun hg22 => .call1 hG (Same_c _ _) (.cons (.o rfl (beq_iff_eq.2 hg22)) (.cons (.o rfl (beq_iff_eq.2 hg22)) .nil)) rfl) ?_
  refine .p (.pickAnd (.t rfl) (fun hp => (.o rfl (beq_iff_eq.2 hp))) (.p (.assign (.t rfl) ?_)))
  refine .nil ?_
  refine .ret ?_
  refine ⟨_, .r1 rfl (.tmp rfl), ?_⟩
  refine congrArg AV.v ?_
  cases a; cases b
  simp [Bool.decide_and, Bool.and_assoc, Bool.and_comm, Bool.and_left_comm]
theorem cutS (b : List UInt8) (k : Nat) : (b.take (64 * (k : Int) + 64).toNat).drop (64 * (k : Int)).toNat = (b.drop (64 * k)).take 64 := by
  have e1 : (64 * (k : Int) + 64).toNat = 64 * k + 64 := by omega
  have e2 : (64 * (k : Int)).toNat = 64 * k := by omega
  rw [e1, e2, List.drop_take]
  congr 1; omega
theorem rState_c (b : List UInt8) (hb : b.length ≤ 1000000) : FunA gl Tryd.prog 18 [.v b] (fun r => r = .v (hOf b)) := by
  refine FunA.intro Tryd.func18 rfl (by kernel_rfl) 29 rfl rfl _ rfl fun C hC hG => ?_
  refine .seq ?_
  refine .region rfl ?_
  refine .h (.alloc ty34 fun b2 => ?_)
  refine .nil ?_
  refine .seq ?_
  refine .region rfl ?_
  refine .p (.call1 hG (Initial_c) .nil (.h (.alloc ty32 fun b3 => .n (.stW ty32 (.t rfl) (.t rfl) .z ?_))))
  refine .nil ?_
  refine .seq ?_
  refine .region rfl ?_
  refine .p (.assign (.i rfl) ?_)
  refine .nil ?_
  refine .seq ?_
  refine .block ?_
  refine .loopR (α := Nat) [(0, _), (2, _), (3, _)] (fun k R => (4, .v (64 * (k : Int))) :: R) (fun k => [(true, .ob (ptr b3 0) (arr8 (feed iv b k))), (true, .ob (ptr b2 0) (default : G_api_Hash))]) (fun k => 64 * k ≤ b.length) (fun k => b.length - 64 * k) (0) (.cons rfl (.cons rfl (.cons rfl (.nil _)))) ?_ (.cons rfl (.cons rfl (.cons rfl (.cons rfl (.nil _))))) (rfl) fun k hF => ?_
  · simp
  refine .seq ?_
  refine .seq ?_
  refine .region rfl ?_
  refine .p (.move (.t rfl) (.p (.add (.t rfl) (.i rfl) (by first | omega | (simp; done) | (simp; omega) | (simp at *; omega)) (by first | omega | (simp; done) | (simp; omega) | (simp at *; omega)) (.p (.move (.t rfl) (.p (.len Tryd.underlying22 (.t rfl) (.p (.leq (.t rfl) (.t rfl) ?_)))))))))
  refine .nil ?_
  refine .condP (.t rfl) (fun hc10 => ?_) (fun hc10 => ?_)
  · refine .skip ?_
    refine .seq ?_
    refine .block ?_
    refine .draw (by kernel_rfl) 7 [[], [], [], [], [(16, 3)], [(14, 1), (15, 2), (17, 4)], [(13, 0), (18, 5)]] rfl (by kernel_rfl) rfl ?_
    refine ⟨_, OpP.ldW ty32 (.t rfl) .z rfl, ?_⟩
    refine ⟨_, OpP.move (.t rfl) rfl, ?_⟩
    refine ⟨_, OpP.move (.t rfl) rfl, ?_⟩
    refine ⟨_, OpP.move (.t rfl) rfl, ?_⟩
    refine ⟨_, OpP.add (.t rfl) (.i rfl) (by first | omega | (simp; done) | (simp; omega) | (simp at *; omega)) (by first | omega | (simp; done) | (simp; omega) | (simp at *; omega)) rfl, ?_⟩
    refine ⟨_, OpP.slLH ty5 Tryd.underlying22 (.t rfl) (.t rfl) (.t rfl) (by first | omega | (simp; done) | (simp; omega) | (simp at *; omega)) (by first | omega | (simp; done) | (simp; omega) | (simp at *; omega)) (by first | omega | (simp; done) | (simp; omega) | (simp at *; omega)) rfl, ?_⟩
    refine ⟨_, OpP.call1 hG (Block_c _ _ (by first | omega | (simp; done) | (simp; omega) | (simp at *; omega))) (.cons (.t rfl) (.cons (.t rfl) .nil)) rfl, ?_⟩
    show wpB _ _ _ _ _ _ ((19, _) :: (18, _) :: (17, _) :: (16, _) :: (15, _) :: (14, _) :: (13, _) :: _) _
    refine .n (.stW ty32 (.t rfl) (.t rfl) .z ?_)
    refine .nil ?_
    refine .region rfl ?_
    refine .p (.move (.t rfl) (.p (.add (.t rfl) (.i rfl) (by first | omega | (simp; done) | (simp; omega) | (simp at *; omega)) (by first | omega | (simp; done) | (simp; omega) | (simp at *; omega)) (.p (.assign (.t rfl) ?_)))))
    refine .nil ?_
    refine ⟨k + 1, .cons (congrArg (fun q => some (AV.v q)) (by omega)) (.cons rfl (.cons rfl (.cons rfl (.nil _)))), congrArg (fun q => [(true, Blk.ob _ (arr8 q)), _]) (by rw [feed, h8_arr8, cutS]), ?_, by omega⟩
    omega
  · refine .exit ?_
    refine .seq ?_
    refine .draw (by kernel_rfl) 9 [[], [], [], [], [(22, 2), (23, 3)], [(21, 1), (24, 4)], [], [(26, 6)], [(20, 0), (25, 5), (27, 7)]] rfl (by kernel_rfl) rfl ?_
    refine ⟨_, OpP.ldW ty32 (.t rfl) .z rfl, ?_⟩
    refine ⟨_, OpP.buildSliceF (α := UInt8) ty5 Tryd.underlying22 .nil rfl (by decide) rfl, ?_⟩
    refine ⟨_, OpP.move (.t rfl) rfl, ?_⟩
    refine ⟨_, OpP.move (.t rfl) rfl, ?_⟩
    refine ⟨_, OpP.slLo ty5 Tryd.underlying22 (.t rfl) (.t rfl) (by first | omega | (simp; done) | (simp; omega) | (simp at *; omega)) (by first | omega | (simp; done) | (simp; omega) | (simp at *; omega)) rfl, ?_⟩
    refine ⟨_, OpP.appendC st22 (.inl ⟨_, Tryd.underlying22⟩) (.t rfl) (.v (.t rfl)) (by first | omega | (simp; done) | (simp; omega) | (simp at *; omega)) (by first | omega | (simp; done) | (simp; omega) | (simp at *; omega)) rfl, ?_⟩
    refine ⟨_, OpP.move (.t rfl) rfl, ?_⟩
    refine ⟨_, OpP.len Tryd.underlying22 (.t rfl) rfl, ?_⟩
    refine ⟨_, OpP.bS3 G_api_Hash.l0 G_api_Hash.l1 G_api_Hash.l2 rfl ty34 fo34 (fun c0 c1 c2 => (⟨c0, c1, c2⟩ : G_api_Hash)) (fun _ _ _ => rfl) rfl rfl rfl rfl (.t rfl) (.t rfl) (.t rfl) rfl, ?_⟩
    show wpB _ _ _ _ _ _ ((28, _) :: (27, _) :: (26, _) :: (25, _) :: (24, _) :: (23, _) :: (22, _) :: (21, _) :: (20, _) :: _) _
    refine .n (.stW ty34 (.t rfl) (.t rfl) (.s .z) ?_)
    refine .nil ?_
    refine .ret ?_
    refine ⟨_, .r1 rfl (.cell ty34 rfl (.s .z)), ?_⟩
    refine congrArg AV.v ?_
    have hk : k = b.length / 64 := by omega
    subst hk
    have e2 : (64 * ((b.length / 64 : Nat) : Int)).toNat = 64 * (b.length / 64) := by omega
    simp only [hOf, absorb, Sha.rest, e2, List.nil_append]
theorem ShaState_c (b : List UInt8) (n : UInt16) : FunA gl Tryd.prog 4 [.v b, .v n] (fun r => r = .v true) := by
  have h7 : (b.take 700).length ≤ 700 := by simp; omega
  refine FunA.intro Tryd.func4 rfl (by kernel_rfl) 40 rfl rfl _ rfl fun C hC hG => ?_
  refine .seq ?_
  refine .region rfl ?_
  refine .p (.assign .b ?_)
  refine .nil ?_
  refine .seq ?_
  refine .region rfl ?_
  refine .p (.move (.t rfl) (.p (.call1 hG (short_c _) (.cons (.t rfl) .nil) (.p (.assign (.t rfl) ?_)))))
  refine .nil ?_
  refine .seq ?_
  generalize b.take 700 = b at *
  refine .region rfl ?_
  refine .p (.move (.t rfl) (.p (.convI16 Tryd.underlying23 Tryd.underlying3 (.t rfl) (.p (.rem (.t rfl) (.i rfl) (by first | omega | (simp; done) | (simp; omega) | (simp at *; omega)) (by first | omega | (simp; done) | (simp; omega) | (simp at *; omega)) (.h (.make st22 (.t rfl) (by first | omega | (simp; done) | (simp; omega) | (simp at *; omega)) (by first | omega | (simp; done) | (simp; omega) | (simp at *; omega)) (by first | omega | (simp; done) | (simp; omega) | (simp at *; omega)) fun b11 => .p (.assign (.t rfl) ?_))))))))
  refine .nil ?_
  refine .seq ?_
  refine .frzOwn hC .z ?_
  refine .as 5 rfl .z ?_
  refine .region rfl ?_
  refine .p (.call1 hG (New_c) .nil (.p (.call1 hG (rState_c _ (by first | omega | (simp; done) | (simp; omega) | (simp at *; omega))) (.cons .nilS .nil) (.p (.call1 hG (same_c _ _) (.cons (.t rfl) (.cons (.t rfl) .nil)) (.p (.move (.t rfl) ?_)))))))
  refine .gk 15 rfl (.t rfl) (by simp) (.ofP (.call1 hG (New_c) .nil ?_))
  refine .gk 15 rfl (.t rfl) (by simp) (.ofP (.move (.t rfl) ?_))
  refine .gk 15 rfl (.t rfl) (by simp) (.ofP (.call1 hG (Write_c _ _ (by first | omega | (simp; done) | (simp; omega) | (simp at *; omega)) (by first | omega | (simp; done) | (simp; omega) | (simp at *; omega)) (by first | omega | (simp; done) | (simp; omega) | (simp at *; omega))) (.cons (.t rfl) (.cons (.t rfl) .nil)) ?_))
  refine .gk 15 rfl (.t rfl) (by simp) (.ofP (.move (.t rfl) ?_))
  refine .gk 15 rfl (.t rfl) (by simp) (.ofP (.call1 hG (rState_c _ (by first | omega | (simp; done) | (simp; omega) | (simp at *; omega))) (.cons (.t rfl) .nil) ?_))
  refine .gk 15 rfl (.t rfl) (by simp) (.ofP (.call1 hG (same_c _ _) (.cons (.t rfl) (.cons (.t rfl) .nil)) ?_))
  refine .p (.pickAnd (.t rfl) (fun hp => (.t rfl)) (.p (.move (.t rfl) ?_)))
  refine .gk 23 rfl (.t rfl) (by simp) (.ofP (.call1 hG (New_c) .nil ?_))
  refine .gk 23 rfl (.t rfl) (by simp) (.ofP (.move (.t rfl) ?_))
  refine .gk 23 rfl (.t rfl) (by simp) (.ofP (.call1 hG (Write_c _ _ (by first | omega | (simp; done) | (simp; omega) | (simp at *; omega)) (by first | omega | (simp; done) | (simp; omega) | (simp at *; omega)) (by first | omega | (simp; done) | (simp; omega) | (simp at *; omega))) (.cons (.t rfl) (.cons (.t rfl) .nil)) ?_))
  refine .gk 23 rfl (.t rfl) (by simp) (.ofP (.move (.t rfl) ?_))
  refine .gk 23 rfl (.t rfl) (by simp) (.ofP (.call1 hG (Write_c _ _ (by first | omega | (simp; done) | (simp; omega) | (simp at *; omega)) (by first | omega | (simp; done) | (simp; omega) | (simp at *; omega)) (by first | omega | (simp; done) | (simp; omega) | (simp at *; omega))) (.cons (.t rfl) (.cons (.t rfl) .nil)) ?_))
  refine .gk 23 rfl (.t rfl) (by simp) (.buildSlice (α := UInt8) ty5 Tryd.underlying22 .nil rfl (by decide) fun b29 => ?_)
  refine .gk 23 rfl (.t rfl) (by simp) (.ofP (.move (.t rfl) ?_))
  refine .gk 23 rfl (.t rfl) (by simp) (.append st22 (.inl ⟨_, Tryd.underlying22⟩) rfl .z (.v (.t rfl)) (by first | omega | (simp; done) | (simp; omega) | (simp at *; omega)) (by first | omega | (simp; done) | (simp; omega) | (simp at *; omega)) (fun w31 => ?_) rfl)
  refine .gk 23 rfl (.t rfl) (by simp) (.ofP (.move (.t rfl) ?_))
  refine .gk 23 rfl (.t rfl) (by simp) (.append st22 (.inl ⟨_, Tryd.underlying22⟩) rfl .z (.v (.t rfl)) (by first | omega | (simp; done) | (simp; omega) | (simp at *; omega)) (by first | omega | (simp; done) | (simp; omega) | (simp at *; omega)) (fun w33 => ?_) rfl)
  refine .frzOwn hC .z ?_
  refine .as 33 rfl .z ?_
  refine .gk 23 rfl (.t rfl) (by simp) (.ofP (.call1 hG (rState_c _ (by first | omega | (simp; done) | (simp; omega) | (simp at *; omega))) (.cons (.t rfl) .nil) ?_))
  refine .gk 23 rfl (.t rfl) (by simp) (.ofP (.call1 hG (same_c _ _) (.cons (.t rfl) (.cons (.t rfl) .nil)) ?_))
  refine .p (.pickAnd (.t rfl) (fun hp => (.t rfl)) (.p (.move (.t rfl) ?_)))
  refine .gk 37 rfl (.t rfl) (by simp) (.ofP (.call1 hG (awake1_c) .nil ?_))
  refine .p (.pickAnd (.t rfl) (fun hp => (.t rfl)) (.p (.assign (.t rfl) ?_)))
  refine .nil ?_
  refine .ret ?_
  refine ⟨_, .r1 rfl (.tmp rfl), ?_⟩
  simp
theorem ShaSum_c (b c : List UInt8) : FunA gl Tryd.prog 6 [.v b, .v c] (fun r => r = .v true) := by
  have h7 : (b.take 700).length ≤ 700 := by simp; omega
  have h8 : (c.take 700).length ≤ 700 := by simp; omega
  refine FunA.intro Tryd.func6 rfl (by kernel_rfl) 44 rfl rfl _ rfl fun C hC hG => ?_
  refine .seq ?_
  refine .region rfl ?_
  refine .p (.assign .b ?_)
  refine .nil ?_
  refine .seq ?_
  refine .region rfl ?_
  refine .p (.move (.t rfl) (.p (.call1 hG (short_c _) (.cons (.t rfl) .nil) (.p (.move (.t rfl) (.p (.call1 hG (short_c _) (.cons (.t rfl) .nil) (.p (.assign (.t rfl) (.p (.assign (.t rfl) ?_)))))))))))
  refine .nil ?_
  refine .seq ?_
  generalize b.take 700 = b at *
  generalize c.take 700 = c at *
  refine .region rfl ?_
  refine .p (.call1 hG (New_c) .nil (.p (.move (.t rfl) (.p (.call1 hG (Write_c _ _ (by first | omega | (simp; done) | (simp; omega) | (simp at *; omega)) (by first | omega | (simp; done) | (simp; omega) | (simp at *; omega)) (by first | omega | (simp; done) | (simp; omega) | (simp at *; omega))) (.cons (.t rfl) (.cons (.t rfl) .nil)) (.h (.alloc ty34 fun b5 => .n (.stW ty34 (.t rfl) (.t rfl) .z ?_))))))))
  refine .nil ?_
  refine .seq ?_
  refine .region rfl ?_
  refine .p (.ldW ty34 (.t rfl) .z (.p (.call1 hG (Sum_c _ (by first | omega | (simp; done) | (simp; omega) | (simp at *; omega)) (by first | omega | (simp; done) | (simp; omega) | (simp at *; omega)) (by first | omega | (simp; done) | (simp; omega) | (simp at *; omega))) (.cons (.t rfl) .nil) (.h (.alloc ty26 fun b6 => .n (.stW ty26 (.t rfl) (.t rfl) .z ?_))))))
  refine .nil ?_
  refine .seq ?_
  refine .region rfl ?_
  refine .p (.ldW ty34 (.t rfl) (.s .z) (.p (.move (.t rfl) (.p (.call1 hG (Write_c _ _ (by first | omega | (simp; done) | (simp; omega) | (simp at *; omega)) (by first | omega | (simp; done) | (simp; omega) | (simp at *; omega)) (by first | omega | (simp; done) | (simp; omega) | (simp at *; omega))) (.cons (.t rfl) (.cons (.t rfl) .nil)) (.h (.alloc ty34 fun b7 => .n (.stW ty34 (.t rfl) (.t rfl) .z ?_))))))))
  refine .nil ?_
  refine .seq ?_
  refine .frzOb hC .z ?_
  refine .asP 7 rfl .z ?_
  refine .frzOb hC (.s .z) ?_
  refine .asP 6 rfl (.s .z) ?_
  refine .frzOb hC (.s (.s .z)) ?_
  refine .asP 5 rfl (.s (.s .z)) ?_
  refine .drawC (by kernel_rfl) 25 [[], [], [(21, 1)], [(20, 0), (22, 2)], [(23, 3)], [], [(25, 5)], [], [], [(27, 7), (28, 8)], [], [(29, 9), (30, 10)], [(31, 11)], [(26, 6), (32, 12)], [(24, 4), (33, 13)], [(34, 14)], [], [(36, 16)], [], [(37, 17), (38, 18)], [(35, 15), (39, 19)], [(40, 20)], [], [(41, 21), (42, 22)], [(43, 23)]] [7, 9, 11, 12] rfl (by kernel_rfl) rfl (by kernel_rfl) (by decide) ?_
  refine ⟨_, fun H => OpP.ldP ty26 (.t rfl) rfl, ?_⟩
  refine ⟨_, fun H => OpP.move (.t rfl) rfl, ?_⟩
  refine ⟨_, fun H => OpP.call1 hG (rSha_c _ (by first | omega | (simp; done) | (simp; omega) | (simp at *; omega))) (.cons (.t rfl) .nil) rfl, ?_⟩
  refine ⟨_, fun H => OpP.eqlA8 Tryd.underlying26 sz5 Tryd.underlying5 gd26 (.t rfl) (.t rfl) rfl, ?_⟩
  refine ⟨_, fun H => OpP.move (.t rfl) rfl, ?_⟩
  refine ⟨_, fun H => ⟨_, _, rfl, rfl, fun hg25 => OpP.ldP ty34 (.t rfl) rfl⟩, ?_⟩
  refine ⟨_, fun H => ⟨_, _, rfl, rfl, fun hg26 => OpP.call1 hG (Sum_c _ (by first | omega | (simp; done) | (simp; omega) | (simp at *; omega)) (by first | omega | (simp; done) | (simp; omega) | (simp at *; omega)) (by first | omega | (simp; done) | (simp; omega) | (simp at *; omega))) (.cons (.o rfl (beq_iff_eq.2 hg26)) .nil) rfl⟩, ?_⟩
  refine .inl ?_
  refine ⟨_, fun H => ⟨_, _, rfl, rfl, fun hg28 => OpP.move (.t rfl) rfl⟩, ?_⟩
  refine .inl ?_
  refine ⟨_, fun H => ⟨_, _, rfl, rfl, fun hg30 => OpP.move (.t rfl) rfl⟩, ?_⟩
  refine .inl ?_
  refine .inr ⟨(.opt (decide (hSum (hWrite hNew b) = sha b) == true) (.v (sha (b ++ c)))), ?_⟩
  refine ⟨_, fun H => ⟨_, _, rfl, rfl, fun hg33 => OpP.eqlA8 Tryd.underlying26 sz5 Tryd.underlying5 gd26 (.o rfl (beq_iff_eq.2 hg33)) (.o rfl (beq_iff_eq.2 hg33)) rfl⟩, ?_⟩
  refine ⟨_, fun H => OpP.pickAnd (.t rfl) (fun hp => (.o rfl (beq_iff_eq.2 hp))) rfl, ?_⟩
  refine ⟨_, fun H => OpP.move (.t rfl) rfl, ?_⟩
  refine ⟨_, fun H => ⟨_, _, rfl, rfl, fun hg36 => OpP.ldP ty34 (.t rfl) rfl⟩, ?_⟩
  refine ⟨_, fun H => ⟨_, _, rfl, rfl, fun hg37 => OpP.call1 hG (Sum_c _ (by first | omega | (simp; done) | (simp; omega) | (simp at *; omega)) (by first | omega | (simp; done) | (simp; omega) | (simp at *; omega)) (by first | omega | (simp; done) | (simp; omega) | (simp at *; omega))) (.cons (.o rfl (beq_iff_eq.2 hg37)) .nil) rfl⟩, ?_⟩
  refine ⟨_, fun H => ⟨_, _, rfl, rfl, fun hg38 => OpP.ldP ty26 (.t rfl) rfl⟩, ?_⟩
  refine ⟨_, fun H => ⟨_, _, rfl, rfl, fun hg39 => OpP.eqlA8 Tryd.underlying26 sz5 Tryd.underlying5 gd26 (.o rfl (beq_iff_eq.2 hg39)) (.o rfl (beq_iff_eq.2 hg39)) rfl⟩, ?_⟩
  refine ⟨_, fun H => OpP.pickAnd (.t rfl) (fun hp => (.o rfl (beq_iff_eq.2 hp))) rfl, ?_⟩
  refine ⟨_, fun H => OpP.move (.t rfl) rfl, ?_⟩
  refine ⟨_, fun H => ⟨_, _, rfl, rfl, fun hg42 => OpP.call1 hG (awake1_c) .nil rfl⟩, ?_⟩
  refine ⟨_, fun H => OpP.pickAnd (.t rfl) (fun hp => (.o rfl (beq_iff_eq.2 hp))) rfl, ?_⟩
  refine ⟨_, fun H => OpP.assign (.t rfl) rfl, ?_⟩
  refine ⟨_, rfl, fun hg27 => OpH.buildSlice (α := UInt8) ty5 Tryd.underlying22 .nil rfl (by decide) fun b27 => ?_, fun hg27 => absurd hg27 (by simp)⟩
  refine ⟨_, rfl, fun hg29 => OpH.append st22 (.inl ⟨_, Tryd.underlying22⟩) rfl .z (.v (.o rfl (beq_iff_eq.2 hg29))) (by first | omega | (simp; omega) | (have := hg29; simp at this; omega)) (by first | omega | (simp; omega) | (have := hg29; simp at this; omega)) (fun w29 => ?_) rfl, fun hg29 => absurd hg29 (by simp)⟩
  refine ⟨_, rfl, fun hg31 => OpH.append st22 (.inl ⟨_, Tryd.underlying22⟩) rfl .z (.v (.o rfl (beq_iff_eq.2 hg31))) (by first | omega | (simp; omega) | (have := hg31; simp at this; omega)) (by first | omega | (simp; omega) | (have := hg31; simp at this; omega)) (fun w31 => ?_) rfl, fun hg31 => absurd hg31 (by simp)⟩
  refine ⟨_, _, rfl, rfl, fun hg32 => OpH.frzOwn hC .z (OpH.as 31 rfl .z (OpH.ofP (OpP.call1 hG (rSha_c _ (by first | omega | (simp; done) | (simp; omega) | (simp at *; omega))) (.cons (.t rfl) .nil) ⟨rfl, ?_⟩))), fun hg32 => absurd hg32 (by simp)⟩
  show wpB _ _ _ _ _ _ ((4, _) :: (43, _) :: (42, _) :: (41, _) :: (40, _) :: (39, _) :: (38, _) :: (37, _) :: (36, _) :: (35, _) :: (34, _) :: (33, _) :: (32, _) :: (31, _) :: (30, _) :: (29, _) :: (28, _) :: (27, _) :: (26, _) :: (25, _) :: (24, _) :: (23, _) :: (22, _) :: (21, _) :: (20, _) :: _) _
  refine .nil ?_
  refine .ret ?_
  refine ⟨_, .r1 rfl (.tmp rfl), ?_⟩
  simp
theorem take_cut (b : List UInt8) (a c : Nat) (h : a ≤ c) : b.take a ++ (b.take c).drop a = b.take c := by
  conv => rhs; rw [← List.take_append_drop a (b.take c)]
  rw [List.take_take, Nat.min_eq_left h]
theorem ShaParts_c (b : List UInt8) (cuts : List UInt8) : FunA gl Tryd.prog 5 [.v b, .v cuts] (fun r => r = .v true) := by
  have h7 : (b.take 700).length ≤ 700 := by simp; omega
  refine FunA.intro Tryd.func5 rfl (by kernel_rfl) 72 rfl rfl _ rfl fun C hC hG => ?_
  refine .seq ?_
  refine .region rfl ?_
  refine .p (.assign .b ?_)
  refine .nil ?_
  refine .seq ?_
  refine .region rfl ?_
  refine .p (.move (.t rfl) (.p (.call1 hG (short_c _) (.cons (.t rfl) .nil) (.p (.assign (.t rfl) ?_)))))
  refine .nil ?_
  refine .seq ?_
  refine .lenLe 1 rfl fun hcl => ?_
  generalize b.take 700 = b at *
  refine .region rfl ?_
  refine .p (.call1 hG (New_c) .nil (.h (.alloc ty34 fun b5 => .n (.stW ty34 (.t rfl) (.t rfl) .z ?_))))
  refine .nil ?_
  refine .seq ?_
  refine .region rfl ?_
  refine .p (.assign (.i rfl) ?_)
  refine .nil ?_
  refine .seq ?_
  refine .seq ?_
  refine .region rfl ?_
  refine .p (.assign (.i rfl) ?_)
  refine .nil ?_
  refine .block ?_
  refine .loopR (α := Nat × Nat) [(0, _), (1, _), (5, _)] (fun x R => (6, .v (x.2 : Int)) :: (7, .v (x.1 : Int)) :: R) (fun x => [(true, .ob (ptr b5 0) (hOf (b.take x.2)))]) (fun x => x.2 ≤ b.length) (fun x => cuts.length - x.1) ((0, 0)) (.cons rfl (.cons rfl (.cons rfl (.nil _)))) ?_ (.cons rfl (.cons rfl (.cons rfl (.cons rfl (.cons rfl (.nil _)))))) (congrArg (fun q : G_api_Hash => [(true, Blk.ob (ptr b5 0) q)]) hNew_eq) fun x hF => ?_
  · simp
  obtain ⟨i, a⟩ := x
  dsimp only at hF ⊢
  refine .seq ?_
  refine .seq ?_
  refine .region rfl ?_
  refine .p (.move (.t rfl) (.p (.move (.t rfl) (.p (.len Tryd.underlying22 (.t rfl) (.p (.lss (.t rfl) (.t rfl) (.p (.move (.t rfl) ?_)))))))))
  refine .go 16 rfl (.t rfl) (fun hg17 => .move (.t rfl) rfl) ?_
  refine .go 16 rfl (.t rfl) (fun hg18 => .move (.t rfl) rfl) ?_
  refine .go 16 rfl (.t rfl) (fun hg19 => .len Tryd.underlying22 (.o rfl (beq_iff_eq.2 hg19)) rfl) ?_
  refine .go 16 rfl (.t rfl) (fun hg20 => .lss (.o rfl (beq_iff_eq.2 hg20)) (.o rfl (beq_iff_eq.2 hg20)) rfl) ?_
  refine .p (.pickAnd (.t rfl) (fun hp => (.o rfl (beq_iff_eq.2 hp))) ?_)
  refine .nil ?_
  refine .cond (.t rfl) (fun hc21 => ?_) (fun hc21 => ?_)
  · refine .skip ?_
    refine .seq ?_
    refine .block ?_
    refine .seq ?_
    refine .region rfl ?_
    refine .p (.move (.t rfl) (.p (.move (.t rfl) (.p (.idx ty5 Tryd.underlying22 (.t rfl) (.t rfl) (by first | omega | (simp; done) | (simp; omega) | (simp at *; omega)) (by first | omega | (simp; done) | (simp; omega) | (simp at *; omega)) (.p (.ldP ty5 (.t rfl) (.p (.convI8 Tryd.underlying5 Tryd.underlying3 (.t rfl) (.p (.move (.t rfl) ?_)))))))))))
    refine .p (.len Tryd.underlying22 (.t rfl) (.p (.move (.t rfl) (.p (.sub (.t rfl) (.t rfl) (by first | omega | (simp; done) | (simp; omega) | (simp at *; omega)) (by first | omega | (simp; done) | (simp; omega) | (simp at *; omega)) (.p (.minI (.t rfl) (.t rfl) (.p (.assign (.t rfl) ?_)))))))))
    refine .nil ?_
    refine .seq ?_
    refine .draw (by kernel_rfl) 8 [[], [], [], [], [], [(37, 3), (38, 4)], [(35, 1), (36, 2), (39, 5)], [(34, 0), (40, 6)]] rfl (by kernel_rfl) rfl ?_
    refine ⟨_, OpP.ldW ty34 (.t rfl) .z rfl, ?_⟩
    refine ⟨_, OpP.move (.t rfl) rfl, ?_⟩
    refine ⟨_, OpP.move (.t rfl) rfl, ?_⟩
    refine ⟨_, OpP.move (.t rfl) rfl, ?_⟩
    refine ⟨_, OpP.move (.t rfl) rfl, ?_⟩
    refine ⟨_, OpP.add (.t rfl) (.t rfl) (by first | omega | (simp; done) | (simp; omega) | (simp at *; omega)) (by first | omega | (simp; done) | (simp; omega) | (simp at *; omega)) rfl, ?_⟩
    refine ⟨_, OpP.slLH ty5 Tryd.underlying22 (.t rfl) (.t rfl) (.t rfl) (by first | omega | (simp; done) | (simp; omega) | (simp at *; omega)) (by first | omega | (simp; done) | (simp; omega) | (simp at *; omega)) (by first | omega | (simp; done) | (simp; omega) | (simp at *; omega)) rfl, ?_⟩
    refine ⟨_, OpP.call1 hG (Write_c _ _ (by first | omega | (simp; done) | (simp; omega) | (simp at *; omega)) (by first | omega | (simp; done) | (simp; omega) | (simp at *; omega)) (by first | omega | (simp; done) | (simp; omega) | (simp at *; omega))) (.cons (.t rfl) (.cons (.t rfl) .nil)) rfl, ?_⟩
    show wpB _ _ _ _ _ _ ((41, _) :: (40, _) :: (39, _) :: (38, _) :: (37, _) :: (36, _) :: (35, _) :: (34, _) :: _) _
    refine .n (.stW ty34 (.t rfl) (.t rfl) .z ?_)
    refine .nil ?_
    refine .region rfl ?_
    refine .p (.move (.t rfl) (.p (.move (.t rfl) (.p (.add (.t rfl) (.t rfl) (by first | omega | (simp; done) | (simp; omega) | (simp at *; omega)) (by first | omega | (simp; done) | (simp; omega) | (simp at *; omega)) (.p (.assign (.t rfl) ?_)))))))
    refine .nil ?_
    refine .region rfl ?_
    refine .p (.move (.t rfl) (.p (.add (.t rfl) (.i rfl) (by first | omega | (simp; done) | (simp; omega) | (simp at *; omega)) (by first | omega | (simp; done) | (simp; omega) | (simp at *; omega)) (.p (.assign (.t rfl) ?_)))))
    refine .nil ?_
    refine ⟨(i + 1, a + min (cuts[i]'(by simp at hc21; omega)).toNat (b.length - a)), .cons (congrArg (fun q => some (AV.v q)) (by dsimp only; simp; omega)) (.cons rfl (.cons rfl (.cons rfl (.cons rfl (.nil _))))), congrArg (fun q : G_api_Hash => [(true, Blk.ob (ptr b5 0) q)]) (by rw [hWrite_hOf]; refine congrArg hOf (Eq.trans ?_ (take_cut b a _ (by omega))); congr 3; simp; omega), ?_, by simp at hc21; dsimp only; omega⟩
    dsimp only; omega
  · refine .exit ?_
    refine .seq ?_
    refine .draw (by kernel_rfl) 5 [[], [], [], [(46, 1), (47, 2)], [(45, 0), (48, 3)]] rfl (by kernel_rfl) rfl ?_
    refine ⟨_, OpP.ldW ty34 (.t rfl) .z rfl, ?_⟩
    refine ⟨_, OpP.move (.t rfl) rfl, ?_⟩
    refine ⟨_, OpP.move (.t rfl) rfl, ?_⟩
    refine ⟨_, OpP.slLo ty5 Tryd.underlying22 (.t rfl) (.t rfl) (by first | omega | (simp; done) | (simp; omega) | (simp at *; omega)) (by first | omega | (simp; done) | (simp; omega) | (simp at *; omega)) rfl, ?_⟩
    refine ⟨_, OpP.call1 hG (Write_c _ _ (by first | omega | (simp; done) | (simp; omega) | (simp at *; omega)) (by first | omega | (simp; done) | (simp; omega) | (simp at *; omega)) (by first | omega | (simp; done) | (simp; omega) | (simp at *; omega))) (.cons (.t rfl) (.cons (.t rfl) .nil)) rfl, ?_⟩
    show wpB _ _ _ _ _ _ ((49, _) :: (48, _) :: (47, _) :: (46, _) :: (45, _) :: _) _
    refine .n (.stW ty34 (.t rfl) (.t rfl) .z ?_)
    refine .nil ?_
    refine .seq ?_
    refine .region rfl ?_
    refine .p (.ldW ty34 (.t rfl) .z (.p (.call1 hG (Sum_c _ (by first | omega | (simp; done) | (simp; omega) | (simp at *; omega)) (by first | omega | (simp; done) | (simp; omega) | (simp at *; omega)) (by first | omega | (simp; done) | (simp; omega) | (simp at *; omega))) (.cons (.t rfl) .nil) (.p (.move (.t rfl) (.p (.call1 hG (Of_c _ (by first | omega | (simp; done) | (simp; omega) | (simp at *; omega))) (.cons (.t rfl) .nil) (.p (.eqlA8 Tryd.underlying26 sz5 Tryd.underlying5 gd26 (.t rfl) (.t rfl) (.p (.move (.t rfl) ?_)))))))))))
    refine .gk 55 rfl (.t rfl) (by simp) (.ofP (.ldW ty34 (.t rfl) .z ?_))
    refine .gk 55 rfl (.t rfl) (by simp) (.ofP (.call1 hG (Sum_c _ (by first | omega | (simp; done) | (simp; omega) | (simp at *; omega)) (by first | omega | (simp; done) | (simp; omega) | (simp at *; omega)) (by first | omega | (simp; done) | (simp; omega) | (simp at *; omega))) (.cons (.t rfl) .nil) ?_))
    refine .gk 55 rfl (.t rfl) (by simp) (.ofP (.move (.t rfl) ?_))
    refine .gk 55 rfl (.t rfl) (by simp) (.ofP (.call1 hG (rSha_c _ (by first | omega | (simp; done) | (simp; omega) | (simp at *; omega))) (.cons (.t rfl) .nil) ?_))
    refine .gk 55 rfl (.t rfl) (by simp) (.ofP (.eqlA8 Tryd.underlying26 sz5 Tryd.underlying5 gd26 (.t rfl) (.t rfl) ?_))
    refine .p (.pickAnd (.t rfl) (fun hp => (.t rfl)) (.p (.move (.t rfl) ?_)))
    refine .gk 62 rfl (.t rfl) (by simp) (.ofP (.fldW G_api_Hash.l2 fd34_2 rfl (.t rfl) ?_))
    refine .gk 62 rfl (.t rfl) (by simp) (.ofP (.ldF (fun x => x.Len) ty3 (.t rfl) .z (fun _ => rfl) ?_))
    refine .gk 62 rfl (.t rfl) (by simp) (.ofP (.move (.t rfl) ?_))
    refine .gk 62 rfl (.t rfl) (by simp) (.ofP (.len Tryd.underlying22 (.t rfl) ?_))
    refine .gk 62 rfl (.t rfl) (by simp) (.ofP (.eqlI (.t rfl) (.t rfl) ?_))
    refine .p (.pickAnd (.t rfl) (fun hp => (.t rfl)) (.p (.move (.t rfl) ?_)))
    refine .gk 69 rfl (.t rfl) (by simp) (.ofP (.call1 hG (awake1_c) .nil ?_))
    refine .p (.pickAnd (.t rfl) (fun hp => (.t rfl)) (.p (.assign (.t rfl) ?_)))
    refine .nil ?_
    refine .ret ?_
    refine ⟨_, .r1 rfl (.tmp rfl), ?_⟩
    simp
theorem ShaBorders_c (k c : UInt8) : FunA gl Tryd.prog 7 [.v k, .v c] (fun r => r = .v true) := by
  refine FunA.intro Tryd.func7 rfl (by kernel_rfl) 64 rfl rfl _ rfl fun C hC hG => ?_
  refine .seq ?_
  refine .region rfl ?_
  refine .p (.assign .b ?_)
  refine .nil ?_
  refine .seq ?_
  refine .region rfl ?_
  refine .h (.buildSlice (α := Int) ty3 Tryd.underlying41 (.cons (.i rfl) (.cons (.i rfl) (.cons (.i rfl) (.cons (.i rfl) (.cons (.i rfl) (.cons (.i rfl) (.cons (.i rfl) (.cons (.i rfl) (.cons (.i rfl) (.cons (.i rfl) (.cons (.i rfl) (.cons (.i rfl) .nil)))))))))))) rfl (by decide) fun b10 => .p (.move (.t rfl) (.p (.convI8 Tryd.underlying5 Tryd.underlying3 (.t rfl) (.p (.rem (.t rfl) (.i rfl) (by first | omega | (simp; done) | (simp; omega) | (simp at *; omega)) (by first | omega | (simp; done) | (simp; omega) | (simp at *; omega)) (.p (.idxOwn ty3 Tryd.underlying41 rfl .z (.t rfl) (by first | omega | (simp; done) | (simp; omega) | (simp at *; omega)) (by first | omega | (simp; done) | (simp; omega) | (simp at *; omega)) (.p (.ldEW ty3 (.t rfl) .z (by first | omega | (simp; done) | (simp; omega) | (simp at *; omega)) ?_))))))))))
  refine .p (.assign (.t rfl) ?_)
  refine .nil ?_
  refine .seq ?_
  generalize hnn : ([0, 55, 56, 63, 64, 65, 119, 120, 127, 128, 183, 184] : List Int)[((k.toNat : Int) % 12).toNat]'(by simp; omega) = n
  have hn : 0 ≤ n ∧ n ≤ 184 := hnn ▸ (show ∀ x ∈ ([0, 55, 56, 63, 64, 65, 119, 120, 127, 128, 183, 184] : List Int), 0 ≤ x ∧ x ≤ 184 by decide) _ (List.getElem_mem _)
  refine .region rfl ?_
  refine .p (.move (.t rfl) (.h (.make st22 (.t rfl) (by first | omega | (simp; done) | (simp; omega) | (simp at *; omega)) (by first | omega | (simp; done) | (simp; omega) | (simp at *; omega)) (by first | omega | (simp; done) | (simp; omega) | (simp at *; omega)) fun b17 => .p (.assign (.t rfl) ?_))))
  refine .nil ?_
  refine .seq ?_
  refine .seq ?_
  refine .region rfl ?_
  refine .p (.assign (.i rfl) ?_)
  refine .nil ?_
  refine .block ?_
  refine .loopR (α := Nat) [(1, _), (5, _), (6, _)] (fun j R => (7, .v (j : Int)) :: R) (fun j => [(true, .own 5 (slc b17 0 n.toNat n.toNat) (fillF (fun i => c + UInt8.ofInt (i : Int)) n.toNat j)), (true, .own 3 (slc b10 0 12 12) [0, 55, 56, 63, 64, 65, 119, 120, 127, 128, 183, 184])]) (fun j => j ≤ n.toNat) (fun j => n.toNat - j) (0) (.cons rfl (.cons rfl (.cons rfl (.nil _)))) ?_ (.cons rfl (.cons rfl (.cons rfl (.cons rfl (.nil _))))) (rfl) fun j hF => ?_
  · simp
  have hl := fillF_len (fun i => c + UInt8.ofInt (i : Int)) n.toNat j hF
  refine .seq ?_
  refine .seq ?_
  refine .region rfl ?_
  refine .p (.move (.t rfl) (.p (.move (.t rfl) (.p (.lss (.t rfl) (.t rfl) ?_)))))
  refine .nil ?_
  refine .condP (.t rfl) (fun hc20 => ?_) (fun hc20 => ?_)
  · refine .skip ?_
    refine .seq ?_
    refine .block ?_
    refine .region rfl ?_
    refine .p (.move (.t rfl) (.p (.move (.t rfl) (.p (.move (.t rfl) (.p (.move (.t rfl) (.p (.conv8 Tryd.underlying3 Tryd.underlying5 (.t rfl) (.p (.add8 (.t rfl) (.t rfl) ?_)))))))))))
    refine .p (.idxOwn ty5 Tryd.underlying22 rfl .z (.t rfl) (by first | omega | (simp; done) | (simp; omega) | (simp at *; omega)) (by first | omega | (simp; done) | (simp; omega) | (simp at *; omega)) (.n (.stEW ty5 (.t rfl) (.t rfl) .z (by first | omega | (simp; done) | (simp; omega) | (simp at *; omega)) ?_)))
    refine .nil ?_
    refine .region rfl ?_
    refine .p (.move (.t rfl) (.p (.add (.t rfl) (.i rfl) (by first | omega | (simp; done) | (simp; omega) | (simp at *; omega)) (by first | omega | (simp; done) | (simp; omega) | (simp at *; omega)) (.p (.assign (.t rfl) ?_)))))
    refine .nil ?_
    refine ⟨j + 1, .cons rfl (.cons rfl (.cons rfl (.cons rfl (.nil _)))), congrArg (fun q => [(true, Blk.own _ _ q), _]) (fillF_set _ _ j (by omega) _ rfl), ?_, by omega⟩
    omega
  · refine .exit ?_
    refine .seq ?_
    obtain rfl : j = n.toNat := by omega
    refine .frzOwn hC .z ?_
    refine .as 6 rfl .z ?_
    generalize hB : fillF (fun i => c + UInt8.ofInt (i : Int)) n.toNat n.toNat = B at *
    refine .region rfl ?_
    refine .p (.call1 hG (New_c) .nil (.h (.alloc ty34 fun b8 => .n (.stW ty34 (.t rfl) (.t rfl) .z ?_))))
    refine .nil ?_
    refine .seq ?_
    refine .seq ?_
    refine .region rfl ?_
    refine .p (.assign (.i rfl) ?_)
    refine .nil ?_
    refine .block ?_
    refine .loopR (α := Nat) [(5, _), (6, _), (8, _)] (fun q R => (9, .v (q : Int)) :: R) (fun q => [(true, .ob (ptr b8 0) (hOf (B.take q))), (true, .fz (slc b17 0 n.toNat n.toNat) (.v B)), (true, .own 3 (slc b10 0 12 12) [0, 55, 56, 63, 64, 65, 119, 120, 127, 128, 183, 184])]) (fun q => q ≤ n.toNat) (fun q => n.toNat - q) (0) (.cons rfl (.cons rfl (.cons rfl (.nil _)))) ?_ (.cons rfl (.cons rfl (.cons rfl (.cons rfl (.nil _))))) (congrArg (fun z : G_api_Hash => [(true, Blk.ob (ptr b8 0) z), _, _]) hNew_eq) fun q hF => ?_
    · simp
    refine .seq ?_
    refine .seq ?_
    refine .region rfl ?_
    refine .p (.move (.t rfl) (.p (.move (.t rfl) (.p (.lss (.t rfl) (.t rfl) ?_)))))
    refine .nil ?_
    refine .condP (.t rfl) (fun hc33 => ?_) (fun hc33 => ?_)
    · refine .skip ?_
      refine .seq ?_
      refine .block ?_
      refine .draw (by kernel_rfl) 7 [[], [], [], [], [(39, 3)], [(37, 1), (38, 2), (40, 4)], [(36, 0), (41, 5)]] rfl (by kernel_rfl) rfl ?_
      refine ⟨_, OpP.ldW ty34 (.t rfl) .z rfl, ?_⟩
      refine ⟨_, OpP.move (.t rfl) rfl, ?_⟩
      refine ⟨_, OpP.move (.t rfl) rfl, ?_⟩
      refine ⟨_, OpP.move (.t rfl) rfl, ?_⟩
      refine ⟨_, OpP.add (.t rfl) (.i rfl) (by first | omega | (simp; done) | (simp; omega) | (simp at *; omega)) (by first | omega | (simp; done) | (simp; omega) | (simp at *; omega)) rfl, ?_⟩
      refine ⟨_, OpP.slLH ty5 Tryd.underlying22 (.t rfl) (.t rfl) (.t rfl) (by first | omega | (simp; done) | (simp; omega) | (simp at *; omega)) (by first | omega | (simp; done) | (simp; omega) | (simp at *; omega)) (by first | omega | (simp; done) | (simp; omega) | (simp at *; omega)) rfl, ?_⟩
      refine ⟨_, OpP.call1 hG (Write_c _ _ (by first | omega | (simp; done) | (simp; omega) | (simp at *; omega)) (by first | omega | (simp; done) | (simp; omega) | (simp at *; omega)) (by first | omega | (simp; done) | (simp; omega) | (simp at *; omega))) (.cons (.t rfl) (.cons (.t rfl) .nil)) rfl, ?_⟩
      show wpB _ _ _ _ _ _ ((42, _) :: (41, _) :: (40, _) :: (39, _) :: (38, _) :: (37, _) :: (36, _) :: _) _
      refine .n (.stW ty34 (.t rfl) (.t rfl) .z ?_)
      refine .nil ?_
      refine .region rfl ?_
      refine .p (.move (.t rfl) (.p (.add (.t rfl) (.i rfl) (by first | omega | (simp; done) | (simp; omega) | (simp at *; omega)) (by first | omega | (simp; done) | (simp; omega) | (simp at *; omega)) (.p (.assign (.t rfl) ?_)))))
      refine .nil ?_
      refine ⟨q + 1, .cons rfl (.cons rfl (.cons rfl (.cons rfl (.nil _)))), congrArg (fun z : G_api_Hash => [(true, Blk.ob (ptr b8 0) z), _, _]) (by rw [hWrite_hOf]; exact congrArg hOf (take_cut B q (q + 1) (by omega))), ?_, by omega⟩
      omega
    · refine .exit ?_
      refine .seq ?_
      refine .draw (by kernel_rfl) 22 [[], [(43, 0)], [], [(45, 2)], [(44, 1), (46, 3)], [(47, 4)], [], [(49, 6)], [], [(51, 8)], [(50, 7), (52, 9)], [(48, 5), (53, 10)], [(54, 11)], [], [], [(57, 14)], [(56, 13), (58, 15)], [(55, 12), (59, 16)], [(60, 17)], [], [(61, 18), (62, 19)], [(63, 20)]] rfl (by kernel_rfl) rfl ?_
      refine ⟨_, OpP.move (.t rfl) rfl, ?_⟩
      refine ⟨_, OpP.call1 hG (Of_c _ (by first | omega | (simp; done) | (simp; omega) | (simp at *; omega))) (.cons (.t rfl) .nil) rfl, ?_⟩
      refine ⟨_, OpP.move (.t rfl) rfl, ?_⟩
      refine ⟨_, OpP.call1 hG (rSha_c _ (by first | omega | (simp; done) | (simp; omega) | (simp at *; omega))) (.cons (.t rfl) .nil) rfl, ?_⟩
      refine ⟨_, OpP.eqlA8 Tryd.underlying26 sz5 Tryd.underlying5 gd26 (.t rfl) (.t rfl) rfl, ?_⟩
      refine ⟨_, OpP.move (.t rfl) rfl, ?_⟩
      refine ⟨_, ⟨_, _, rfl, rfl, fun hg49 => OpP.ldW ty34 (.t rfl) .z rfl⟩, ?_⟩
      refine ⟨_, ⟨_, _, rfl, rfl, fun hg50 => OpP.call1 hG (Sum_c _ (by first | omega | (simp; done) | (simp; omega) | (simp at *; omega)) (by first | omega | (simp; done) | (simp; omega) | (simp at *; omega)) (by first | omega | (simp; done) | (simp; omega) | (simp at *; omega))) (.cons (.o rfl (beq_iff_eq.2 hg50)) .nil) rfl⟩, ?_⟩
      refine ⟨_, ⟨_, _, rfl, rfl, fun hg51 => OpP.move (.t rfl) rfl⟩, ?_⟩
      refine ⟨_, ⟨_, _, rfl, rfl, fun hg52 => OpP.call1 hG (rSha_c _ (by first | omega | (simp; done) | (simp; omega) | (simp at *; omega))) (.cons (.o rfl (beq_iff_eq.2 hg52)) .nil) rfl⟩, ?_⟩
      refine ⟨_, ⟨_, _, rfl, rfl, fun hg53 => OpP.eqlA8 Tryd.underlying26 sz5 Tryd.underlying5 gd26 (.o rfl (beq_iff_eq.2 hg53)) (.o rfl (beq_iff_eq.2 hg53)) rfl⟩, ?_⟩
      refine ⟨_, OpP.pickAnd (.t rfl) (fun hp => (.o rfl (beq_iff_eq.2 hp))) rfl, ?_⟩
      refine ⟨_, OpP.move (.t rfl) rfl, ?_⟩
      refine ⟨_, ⟨_, _, rfl, rfl, fun hg56 => OpP.ldW ty34 (.t rfl) .z rfl⟩, ?_⟩
      refine ⟨_, ⟨_, _, rfl, rfl, fun hg57 => OpP.move (.t rfl) rfl⟩, ?_⟩
      refine ⟨_, ⟨_, _, rfl, rfl, fun hg58 => OpP.call1 hG (rState_c _ (by first | omega | (simp; done) | (simp; omega) | (simp at *; omega))) (.cons (.o rfl (beq_iff_eq.2 hg58)) .nil) rfl⟩, ?_⟩
      refine ⟨_, ⟨_, _, rfl, rfl, fun hg59 => OpP.call1 hG (same_c _ _) (.cons (.o rfl (beq_iff_eq.2 hg59)) (.cons (.o rfl (beq_iff_eq.2 hg59)) .nil)) rfl⟩, ?_⟩
      refine ⟨_, OpP.pickAnd (.t rfl) (fun hp => (.o rfl (beq_iff_eq.2 hp))) rfl, ?_⟩
      refine ⟨_, OpP.move (.t rfl) rfl, ?_⟩
      refine ⟨_, ⟨_, _, rfl, rfl, fun hg62 => OpP.call1 hG (awake1_c) .nil rfl⟩, ?_⟩
      refine ⟨_, OpP.pickAnd (.t rfl) (fun hp => (.o rfl (beq_iff_eq.2 hp))) rfl, ?_⟩
      refine ⟨_, OpP.assign (.t rfl) rfl, ?_⟩
      show wpB _ _ _ _ _ _ ((4, _) :: (63, _) :: (62, _) :: (61, _) :: (60, _) :: (59, _) :: (58, _) :: (57, _) :: (56, _) :: (55, _) :: (54, _) :: (53, _) :: (52, _) :: (51, _) :: (50, _) :: (49, _) :: (48, _) :: (47, _) :: (46, _) :: (45, _) :: (44, _) :: (43, _) :: _) _
      refine .nil ?_
      refine .ret ?_
      refine ⟨_, .r1 rfl (.tmp rfl), ?_⟩
      have hq : List.take q B = B := List.take_of_length_le (by omega)
      simp [hq]
end Go.Proofs.YtlohppddhbimnaaDoor
