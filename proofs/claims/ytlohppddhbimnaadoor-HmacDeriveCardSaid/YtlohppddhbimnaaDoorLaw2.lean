/- Law 02: the statements' functions return true. -/
import Derived.Test.YtlohppddhbimnaaDoorHd
set_option linter.unusedVariables false
set_option linter.unusedSimpArgs false
namespace Go.Proofs.YtlohppddhbimnaaDoor
open Go.Fl Go.Ab Go.Mac Go.Sha
def keyB : List UInt8 := [107, 101, 121]
def foxB : List UInt8 := [84, 104, 101, 32, 113, 117, 105, 99, 107, 32, 98, 114, 111, 119, 110, 32, 102, 111, 120, 32, 106, 117, 109, 112, 115, 32, 111, 118, 101, 114, 32, 116, 104, 101, 32, 108, 97, 122, 121, 32, 100, 111, 103]
theorem hmac_ex : ((hmac keyB foxB).l[0]? == some 0xf7 && (hmac keyB foxB).l[1]? == some 0xbc && (hmac keyB foxB).l[31]? == some 0xd8) = true := by decide +kernel
theorem hmac_at (i : Nat) (hi : i < 32) (c : UInt8) (h : ((hmac keyB foxB).l[i]? == some c) = true) : (hmac keyB foxB).l[i]'(by rw [Arr.len]; exact hi) = c := by
  have h2 : (hmac keyB foxB).l[i]? = some c := by simpa using h
  rw [List.getElem?_eq_getElem (by rw [Arr.len]; exact hi)] at h2
  exact Option.some.inj h2
theorem awake2_c : FunA gl Tryd.prog 23 [] (fun r => r = .v true) := by
  have hx := hmac_ex
  simp only [Bool.and_eq_true] at hx
  have h0 := hmac_at 0 (by decide) _ hx.1.1
  have h1 := hmac_at 1 (by decide) _ hx.1.2
  have h31 := hmac_at 31 (by decide) _ hx.2
  refine FunA.intro Tryd.func23 rfl (by kernel_rfl) 25 rfl rfl _ rfl fun C hC hG => ?_
  refine .seq ?_
  refine .region rfl ?_
  refine .p (.assign .b ?_)
  refine .nil ?_
  refine .seq ?_
  refine .region rfl ?_
  refine .h (.buildSlice (α := UInt8) ty5 Tryd.underlying22 (.cons (.u8 107 rfl) (.cons (.u8 101 rfl) (.cons (.u8 121 rfl) .nil))) rfl (by decide) fun b2 => .h (.same Tryd.underlying22 Tryd.underlying5 rfl .z (by simp) (.h (.buildSlice (α := UInt8) ty5 Tryd.underlying22 (.cons (.u8 84 rfl) (.cons (.u8 104 rfl) (.cons (.u8 101 rfl) (.cons (.u8 32 rfl) (.cons (.u8 113 rfl) (.cons (.u8 117 rfl) (.cons (.u8 105 rfl) (.cons (.u8 99 rfl) (.cons (.u8 107 rfl) (.cons (.u8 32 rfl) (.cons (.u8 98 rfl) (.cons (.u8 114 rfl) (.cons (.u8 111 rfl) (.cons (.u8 119 rfl) (.cons (.u8 110 rfl) (.cons (.u8 32 rfl) (.cons (.u8 102 rfl) (.cons (.u8 111 rfl) (.cons (.u8 120 rfl) (.cons (.u8 32 rfl) (.cons (.u8 106 rfl) (.cons (.u8 117 rfl) (.cons (.u8 109 rfl) (.cons (.u8 112 rfl) (.cons (.u8 115 rfl) (.cons (.u8 32 rfl) (.cons (.u8 111 rfl) (.cons (.u8 118 rfl) (.cons (.u8 101 rfl) (.cons (.u8 114 rfl) (.cons (.u8 32 rfl) (.cons (.u8 116 rfl) (.cons (.u8 104 rfl) (.cons (.u8 101 rfl) (.cons (.u8 32 rfl) (.cons (.u8 108 rfl) (.cons (.u8 97 rfl) (.cons (.u8 122 rfl) (.cons (.u8 121 rfl) (.cons (.u8 32 rfl) (.cons (.u8 100 rfl) (.cons (.u8 111 rfl) (.cons (.u8 103 rfl) .nil))))))))))))))))))))))))))))))))))))))))))) rfl (by decide) fun b4 => .h (.same Tryd.underlying22 Tryd.underlying5 rfl .z (by simp) ?_)))))
  refine .frzOwn hC (.s .z) ?_
  refine .as 3 rfl (.s .z) ?_
  refine .frzOwn hC .z ?_
  refine .as 5 rfl .z ?_
  refine .p (.call1 hG (hmacOf_c _ _ (by first | omega | (simp; done) | (simp; omega) | (simp at *; omega)) (by first | omega | (simp; done) | (simp; omega) | (simp at *; omega))) (.cons (.t rfl) (.cons (.t rfl) .nil)) (.h (.alloc ty26 fun b1 => .n (.stW ty26 (.t rfl) (.t rfl) .z ?_))))
  refine .nil ?_
  refine .seq ?_
  refine .region rfl ?_
  refine .p (.idxW ar26 (.t rfl) (.i rfl) (by first | omega | (simp; done) | (simp; omega) | (simp at *; omega)) (by first | omega | (simp; done) | (simp; omega) | (simp at *; omega)) (.p (.ldL ty5 (.t rfl) .z (.p (.eql8 (.t rfl) (.u8 247 rfl) (.p (.move (.t rfl) ?_)))))))
  refine .gk 10 rfl (.t rfl) (by simp; first | exact h0 | exact ⟨h0, h1⟩ | exact ⟨⟨h0, h1⟩, h31⟩) (.ofP (.idxW ar26 (.t rfl) (.i rfl) (by first | omega | (simp; done) | (simp; omega) | (simp at *; omega)) (by first | omega | (simp; done) | (simp; omega) | (simp at *; omega)) ?_))
  refine .gk 10 rfl (.t rfl) (by simp; first | exact h0 | exact ⟨h0, h1⟩ | exact ⟨⟨h0, h1⟩, h31⟩) (.ofP (.ldL ty5 (.t rfl) .z ?_))
  refine .gk 10 rfl (.t rfl) (by simp; first | exact h0 | exact ⟨h0, h1⟩ | exact ⟨⟨h0, h1⟩, h31⟩) (.ofP (.eql8 (.t rfl) (.u8 188 rfl) ?_))
  refine .p (.pickAnd (.t rfl) (fun hp => (.t rfl)) (.p (.move (.t rfl) ?_)))
  refine .gk 15 rfl (.t rfl) (by simp; first | exact h0 | exact ⟨h0, h1⟩ | exact ⟨⟨h0, h1⟩, h31⟩) (.ofP (.idxW ar26 (.t rfl) (.i rfl) (by first | omega | (simp; done) | (simp; omega) | (simp at *; omega)) (by first | omega | (simp; done) | (simp; omega) | (simp at *; omega)) ?_))
  refine .gk 15 rfl (.t rfl) (by simp; first | exact h0 | exact ⟨h0, h1⟩ | exact ⟨⟨h0, h1⟩, h31⟩) (.ofP (.ldL ty5 (.t rfl) .z ?_))
  refine .gk 15 rfl (.t rfl) (by simp; first | exact h0 | exact ⟨h0, h1⟩ | exact ⟨⟨h0, h1⟩, h31⟩) (.ofP (.eql8 (.t rfl) (.u8 216 rfl) ?_))
  refine .p (.pickAnd (.t rfl) (fun hp => (.t rfl)) (.p (.move (.t rfl) ?_)))
  refine .gk 20 rfl (.t rfl) (by simp; first | exact h0 | exact ⟨h0, h1⟩ | exact ⟨⟨h0, h1⟩, h31⟩) (.buildSlice (α := UInt8) ty5 Tryd.underlying22 (.cons (.u8 1 rfl) .nil) rfl (by decide) fun b21 => ?_)
  refine .gk 20 rfl (.t rfl) (by simp; first | exact h0 | exact ⟨h0, h1⟩ | exact ⟨⟨h0, h1⟩, h31⟩) (.buildSlice (α := UInt8) ty5 Tryd.underlying22 (.cons (.u8 1 rfl) .nil) rfl (by decide) fun b22 => ?_)
  refine .gk 20 rfl (.t rfl) (by simp; first | exact h0 | exact ⟨h0, h1⟩ | exact ⟨⟨h0, h1⟩, h31⟩) (.ofP (.lend1 hG (Equal_c _ _) (.cons (.own rfl (.s .z)) (.cons (.own rfl .z) .nil)) (by first | exact .v | exact .t2 .v .v | exact .t3 .v .v .v) ?_))
  refine .p (.pickAnd (.t rfl) (fun hp => (.t rfl)) (.p (.assign (.t rfl) ?_)))
  refine .nil ?_
  refine .ret ?_
  refine ⟨_, .r1 rfl (.tmp rfl), ?_⟩
  refine congrArg AV.v ?_; simp; exact ⟨⟨h0, h1⟩, h31⟩
def fillF (f : Nat → UInt8) (M k : Nat) : List UInt8 := (List.range k).map f ++ List.replicate (M - k) 0
theorem fillF_len (f : Nat → UInt8) (M k : Nat) (h : k ≤ M) : (fillF f M k).length = M := by simp [fillF]; omega
theorem fillF_set (f : Nat → UInt8) (M k : Nat) (h : k < M) (v : UInt8) (hv : v = f k) : (fillF f M k).set k v = fillF f M (k + 1) := by
  subst hv
  unfold fillF
  rw [List.set_append_right _ _ (by simp)]
  rw [show M - k = (M - (k + 1)) + 1 by omega, List.replicate_succ]
  simp [List.range_succ]
theorem HmacTag_c (key m : List UInt8) (n : UInt8) : FunA gl Tryd.prog 8 [.v key, .v m, .v n] (fun r => r = .v true) := by
  refine FunA.intro Tryd.func8 rfl (by kernel_rfl) 55 rfl rfl _ rfl fun C hC hG => ?_
  refine .seq ?_
  refine .region rfl ?_
  refine .p (.assign .b ?_)
  refine .nil ?_
  refine .seq ?_
  refine .draw (by kernel_rfl) 12 [[], [], [(10, 1)], [(11, 2)], [(9, 0), (12, 3)], [], [], [(15, 6)], [(16, 7)], [(14, 5), (17, 8)], [(13, 4)], [(18, 9)]] rfl (by kernel_rfl) rfl ?_
  refine ⟨_, OpP.move (.t rfl) rfl, ?_⟩
  refine ⟨_, OpP.move (.t rfl) rfl, ?_⟩
  refine ⟨_, OpP.len Tryd.underlying22 (.t rfl) rfl, ?_⟩
  refine ⟨_, OpP.minI (.t rfl) (.i rfl) rfl, ?_⟩
  refine ⟨_, OpP.slHi ty5 Tryd.underlying22 (.t rfl) (.t rfl) (by first | omega | (simp; done) | (simp; omega) | (simp at *; omega)) (by first | omega | (simp; done) | (simp; omega) | (simp at *; omega)) rfl, ?_⟩
  refine ⟨_, OpP.move (.t rfl) rfl, ?_⟩
  refine ⟨_, OpP.move (.t rfl) rfl, ?_⟩
  refine ⟨_, OpP.len Tryd.underlying22 (.t rfl) rfl, ?_⟩
  refine ⟨_, OpP.minI (.t rfl) (.i rfl) rfl, ?_⟩
  refine ⟨_, OpP.slHi ty5 Tryd.underlying22 (.t rfl) (.t rfl) (by first | omega | (simp; done) | (simp; omega) | (simp at *; omega)) (by first | omega | (simp; done) | (simp; omega) | (simp at *; omega)) rfl, ?_⟩
  refine ⟨_, OpP.assign (.t rfl) rfl, ?_⟩
  refine ⟨_, OpP.assign (.t rfl) rfl, ?_⟩
  show wpB _ _ _ _ _ _ ((1, _) :: (0, _) :: (18, _) :: (17, _) :: (16, _) :: (15, _) :: (14, _) :: (13, _) :: (12, _) :: (11, _) :: (10, _) :: (9, _) :: _) _
  refine .nil ?_
  refine .seq ?_
  refine .region rfl ?_
  refine .p (.move (.t rfl) (.p (.convI8 Tryd.underlying5 Tryd.underlying3 (.t rfl) (.p (.rem (.t rfl) (.i rfl) (by first | omega | (simp; done) | (simp; omega) | (simp at *; omega)) (by first | omega | (simp; done) | (simp; omega) | (simp at *; omega)) (.h (.make st22 (.t rfl) (by first | omega | (simp; done) | (simp; omega) | (simp at *; omega)) (by first | omega | (simp; done) | (simp; omega) | (simp at *; omega)) (by first | omega | (simp; done) | (simp; omega) | (simp at *; omega)) fun b22 => .p (.assign (.t rfl) ?_))))))))
  refine .nil ?_
  refine .seq ?_
  refine .seq ?_
  refine .region rfl ?_
  refine .p (.assign (.i rfl) ?_)
  refine .nil ?_
  refine .block ?_
  refine .loopR (α := Nat) [(0, _), (1, _), (2, _), (7, _)] (fun k R => (8, .v (k : Int)) :: R) (fun k => [(true, .own 5 (slc b22 0 ((n.toNat : Int) % 140).toNat ((n.toNat : Int) % 140).toNat) (fillF (fun i => n + UInt8.ofInt (i : Int)) ((n.toNat : Int) % 140).toNat k))]) (fun k => k ≤ ((n.toNat : Int) % 140).toNat) (fun k => ((n.toNat : Int) % 140).toNat - k) (0) (.cons rfl (.cons rfl (.cons rfl (.cons rfl (.nil _))))) ?_ (.cons rfl (.cons rfl (.cons rfl (.cons rfl (.cons rfl (.nil _)))))) (rfl) fun k hF => ?_
  · simp
  have hl := fillF_len (fun i => n + UInt8.ofInt (i : Int)) ((n.toNat : Int) % 140).toNat k hF
  refine .seq ?_
  refine .seq ?_
  refine .region rfl ?_
  refine .p (.move (.t rfl) (.p (.move (.t rfl) (.p (.lenOwn Tryd.underlying22 rfl .z (.p (.lss (.t rfl) (.t rfl) ?_)))))))
  refine .nil ?_
  refine .condP (.t rfl) (fun hc26 => ?_) (fun hc26 => ?_)
  · refine .skip ?_
    refine .seq ?_
    refine .block ?_
    refine .region rfl ?_
    refine .p (.move (.t rfl) (.p (.move (.t rfl) (.p (.move (.t rfl) (.p (.move (.t rfl) (.p (.conv8 Tryd.underlying3 Tryd.underlying5 (.t rfl) (.p (.add8 (.t rfl) (.t rfl) ?_)))))))))))
    refine .p (.idxOwn ty5 Tryd.underlying22 rfl .z (.t rfl) (by first | omega | (simp; done) | (simp; omega) | (simp at *; omega)) (by first | omega | (simp; done) | (simp; omega) | (simp at *; omega)) (.n (.stEW ty5 (.t rfl) (.t rfl) .z (by first | omega | (simp; done) | (simp; omega) | (simp at *; omega)) ?_)))
    refine .nil ?_
    refine .region rfl ?_
    refine .p (.move (.t rfl) (.p (.add (.t rfl) (.i rfl) (by first | omega | (simp; done) | (simp; omega) | (simp at *; omega)) (by first | omega | (simp; done) | (simp; omega) | (simp at *; omega)) (.p (.assign (.t rfl) ?_)))))
    refine .nil ?_
    refine ⟨k + 1, .cons rfl (.cons rfl (.cons rfl (.cons rfl (.cons rfl (.nil _))))), congrArg (fun q => [(true, Blk.own _ _ q)]) (fillF_set _ _ k (by omega) _ rfl), ?_, by omega⟩
    omega
  · refine .exit ?_
    refine .seq ?_
    refine .frzOwn hC .z ?_
    refine .as 7 rfl .z ?_
    refine .region rfl ?_
    refine .p (.move (.t rfl) (.p (.move (.t rfl) (.p (.call1 hG (hmacOf_c _ _ (by first | omega | (simp; done) | (simp; omega) | (simp at *; omega)) (by first | omega | (simp; done) | (simp; omega) | (simp at *; omega))) (.cons (.t rfl) (.cons (.t rfl) .nil)) (.p (.move (.t rfl) (.p (.move (.t rfl) (.p (.call1 hG (rHmac_c _ _ (by first | omega | (simp; done) | (simp; omega) | (simp at *; omega)) (by first | omega | (simp; done) | (simp; omega) | (simp at *; omega))) (.cons (.t rfl) (.cons (.t rfl) .nil)) ?_)))))))))))
    refine .p (.eqlA8 Tryd.underlying26 sz5 Tryd.underlying5 gd26 (.t rfl) (.t rfl) (.p (.move (.t rfl) ?_)))
    refine .gk 43 rfl (.t rfl) (by simp) (.ofP (.move (.t rfl) ?_))
    refine .gk 43 rfl (.t rfl) (by simp) (.ofP (.move (.t rfl) ?_))
    refine .gk 43 rfl (.t rfl) (by simp) (.ofP (.call1 hG (hmacOf_c _ _ (by first | omega | (simp; done) | (simp; omega) | (simp at *; omega)) (by first | omega | (simp; done) | (simp; omega) | (simp at *; omega))) (.cons (.t rfl) (.cons (.t rfl) .nil)) ?_))
    refine .gk 43 rfl (.t rfl) (by simp) (.ofP (.move (.t rfl) ?_))
    refine .gk 43 rfl (.t rfl) (by simp) (.ofP (.move (.t rfl) ?_))
    refine .gk 43 rfl (.t rfl) (by simp) (.ofP (.call1 hG (rHmac_c _ _ (by first | omega | (simp; done) | (simp; omega) | (simp at *; omega)) (by first | omega | (simp; done) | (simp; omega) | (simp at *; omega))) (.cons (.t rfl) (.cons (.t rfl) .nil)) ?_))
    refine .gk 43 rfl (.t rfl) (by simp) (.ofP (.eqlA8 Tryd.underlying26 sz5 Tryd.underlying5 gd26 (.t rfl) (.t rfl) ?_))
    refine .p (.pickAnd (.t rfl) (fun hp => (.t rfl)) (.p (.move (.t rfl) ?_)))
    refine .gk 52 rfl (.t rfl) (by simp) (.ofP (.call1 hG (awake2_c) .nil ?_))
    refine .p (.pickAnd (.t rfl) (fun hp => (.t rfl)) (.p (.assign (.t rfl) ?_)))
    refine .nil ?_
    refine .ret ?_
    refine ⟨_, .r1 rfl (.tmp rfl), ?_⟩
    simp
theorem key0_zeros (key : List UInt8) (z : Nat) (h : key.length + z ≤ 64) : key0 (key ++ List.replicate z 0) = key0 key := by
  unfold key0
  rw [List.append_assoc, List.length_append, List.length_replicate, List.replicate_append_replicate]
  congr 2; omega
theorem hmac_zeros (key m : List UInt8) (z : Nat) (h : key.length + z ≤ 64) : hmac (key ++ List.replicate z 0) m = hmac key m := by
  have e1 : ∀ x, padded (key ++ List.replicate z 0) x = padded key x := fun x => by unfold padded; rw [key0_zeros key z h]
  unfold hmac
  rw [if_neg (by simp; omega), if_neg (by omega)]
  simp only [e1]
theorem hmac_long (l m : List UInt8) (h : l.length > 64) : hmac l m = hmac (sha l).l m := by
  unfold hmac
  rw [if_pos h, if_neg (by rw [Arr.len]; omega)]
theorem HmacPadding_c (key m : List UInt8) (z n : UInt8) : FunA gl Tryd.prog 9 [.v key, .v m, .v z, .v n] (fun r => r = .v true) := by
  refine FunA.intro Tryd.func9 rfl (by kernel_rfl) 58 rfl rfl _ rfl fun C hC hG => ?_
  refine .seq ?_
  refine .region rfl ?_
  refine .p (.assign .b ?_)
  refine .nil ?_
  refine .seq ?_
  refine .draw (by kernel_rfl) 12 [[], [], [(13, 1)], [(14, 2)], [(12, 0), (15, 3)], [], [], [(18, 6)], [(19, 7)], [(17, 5), (20, 8)], [(16, 4)], [(21, 9)]] rfl (by kernel_rfl) rfl ?_
  refine ⟨_, OpP.move (.t rfl) rfl, ?_⟩
  refine ⟨_, OpP.move (.t rfl) rfl, ?_⟩
  refine ⟨_, OpP.len Tryd.underlying22 (.t rfl) rfl, ?_⟩
  refine ⟨_, OpP.minI (.t rfl) (.i rfl) rfl, ?_⟩
  refine ⟨_, OpP.slHi ty5 Tryd.underlying22 (.t rfl) (.t rfl) (by first | omega | (simp; done) | (simp; omega) | (simp at *; omega)) (by first | omega | (simp; done) | (simp; omega) | (simp at *; omega)) rfl, ?_⟩
  refine ⟨_, OpP.move (.t rfl) rfl, ?_⟩
  refine ⟨_, OpP.move (.t rfl) rfl, ?_⟩
  refine ⟨_, OpP.len Tryd.underlying22 (.t rfl) rfl, ?_⟩
  refine ⟨_, OpP.minI (.t rfl) (.i rfl) rfl, ?_⟩
  refine ⟨_, OpP.slHi ty5 Tryd.underlying22 (.t rfl) (.t rfl) (by first | omega | (simp; done) | (simp; omega) | (simp at *; omega)) (by first | omega | (simp; done) | (simp; omega) | (simp at *; omega)) rfl, ?_⟩
  refine ⟨_, OpP.assign (.t rfl) rfl, ?_⟩
  refine ⟨_, OpP.assign (.t rfl) rfl, ?_⟩
  show wpB _ _ _ _ _ _ ((1, _) :: (0, _) :: (21, _) :: (20, _) :: (19, _) :: (18, _) :: (17, _) :: (16, _) :: (15, _) :: (14, _) :: (13, _) :: (12, _) :: _) _
  refine .nil ?_
  refine .seq ?_
  have hk40 : (List.take (min (key.length : Int) 40).toNat key).length ≤ 40 := by simp; omega
  generalize List.take (min (key.length : Int) 40).toNat key = key at *
  have hm200 : (List.take (min (m.length : Int) 200).toNat m).length ≤ 200 := by simp; omega
  generalize List.take (min (m.length : Int) 200).toNat m = m at *
  have hz0 := Int.emod_nonneg (z.toNat : Int) (show (65 - (key.length : Int)) ≠ 0 by omega)
  have hz1 := Int.emod_lt_of_pos (z.toNat : Int) (show 0 < 65 - (key.length : Int) by omega)
  refine .drawC (by kernel_rfl) 11 [[], [], [(22, 0), (23, 1)], [], [(25, 3)], [], [(27, 5)], [(28, 6)], [(26, 4), (29, 7)], [(24, 2), (30, 8)], [(31, 9)]] [0, 2, 9, 10] rfl (by kernel_rfl) rfl (by kernel_rfl) (by decide) ?_
  refine .inl ?_
  refine ⟨_, fun H => OpP.move (.t rfl) rfl, ?_⟩
  refine .inl ?_
  refine ⟨_, fun H => OpP.move (.t rfl) rfl, ?_⟩
  refine ⟨_, fun H => OpP.convI8 Tryd.underlying5 Tryd.underlying3 (.t rfl) rfl, ?_⟩
  refine ⟨_, fun H => OpP.move (.t rfl) rfl, ?_⟩
  refine ⟨_, fun H => OpP.len Tryd.underlying22 (.t rfl) rfl, ?_⟩
  refine ⟨_, fun H => OpP.sub (.i rfl) (.t rfl) (by first | omega | (simp; done) | (simp; omega) | (simp at *; omega)) (by first | omega | (simp; done) | (simp; omega) | (simp at *; omega)) rfl, ?_⟩
  refine ⟨_, fun H => OpP.rem (.t rfl) (.t rfl) (by first | omega | (simp; done) | (simp; omega) | (simp at *; omega)) (by first | omega | (simp; done) | (simp; omega) | (simp at *; omega)) rfl, ?_⟩
  refine .inl ?_
  refine .inl ?_
  refine OpH.buildSlice (α := UInt8) ty5 Tryd.underlying22 .nil rfl (by decide) fun b22 => ?_
  refine OpH.append st22 (.inl ⟨_, Tryd.underlying22⟩) rfl .z (.v (.t rfl)) (by first | omega | (simp; done) | (simp; omega) | (simp at *; omega)) (by first | omega | (simp; done) | (simp; omega) | (simp at *; omega)) (fun w24 => ?_) rfl
  refine OpH.appendZ Tryd.underlying22 one5 rfl rfl rfl (fun _ => rfl) Tryd.underlying3 rfl .z (.t rfl) (by first | omega | (simp; done) | (simp; omega) | (simp at *; omega)) (by first | omega | (simp; done) | (simp; omega) | (simp at *; omega)) (by first | omega | (simp; done) | (simp; omega) | (simp at *; omega)) fun w31 => ?_
  refine OpH.ofP (OpP.assign (.t rfl) ?_)
  show wpB _ _ _ _ _ _ ((9, _) :: (31, _) :: (30, _) :: (29, _) :: (28, _) :: (27, _) :: (26, _) :: (25, _) :: (24, _) :: (23, _) :: (22, _) :: _) _
  refine .nil ?_
  refine .seq ?_
  refine .region rfl ?_
  refine .p (.move (.t rfl) (.p (.convI8 Tryd.underlying5 Tryd.underlying3 (.t rfl) (.p (.rem (.t rfl) (.i rfl) (by first | omega | (simp; done) | (simp; omega) | (simp at *; omega)) (by first | omega | (simp; done) | (simp; omega) | (simp at *; omega)) (.p (.add (.i rfl) (.t rfl) (by first | omega | (simp; done) | (simp; omega) | (simp at *; omega)) (by first | omega | (simp; done) | (simp; omega) | (simp at *; omega)) (.h (.make st22 (.t rfl) (by first | omega | (simp; done) | (simp; omega) | (simp at *; omega)) (by first | omega | (simp; done) | (simp; omega) | (simp at *; omega)) (by first | omega | (simp; done) | (simp; omega) | (simp at *; omega)) fun b36 => .p (.assign (.t rfl) ?_))))))))))
  refine .nil ?_
  refine .seq ?_
  refine .region rfl ?_
  refine .p (.move (.t rfl) (.p (.lend1 hG (Of_c _ (by first | omega | (simp; done) | (simp; omega) | (simp at *; omega))) (.cons (.own rfl .z) .nil) (by first | exact .v | exact .t2 .v .v | exact .t3 .v .v .v) (.h (.alloc ty26 fun b11 => .n (.stW ty26 (.t rfl) (.t rfl) .z ?_))))))
  refine .nil ?_
  refine .seq ?_
  refine .frzOb hC .z ?_
  refine .asP 11 rfl .z ?_
  refine .frzOwn hC (.s .z) ?_
  refine .as 10 rfl (.s .z) ?_
  refine .frzOwn hC (.s (.s .z)) ?_
  refine .as 9 rfl (.s (.s .z)) ?_
  refine .draw (by kernel_rfl) 20 [[], [], [(39, 0), (40, 1)], [], [], [(42, 3), (43, 4)], [(41, 2), (44, 5)], [(45, 6)], [], [], [(47, 8), (48, 9)], [], [], [(50, 11), (51, 12)], [(49, 10), (52, 13)], [(46, 7), (53, 14)], [(54, 15)], [], [(55, 16), (56, 17)], [(57, 18)]] rfl (by kernel_rfl) rfl ?_
  refine ⟨_, OpP.move (.t rfl) rfl, ?_⟩
  refine ⟨_, OpP.move (.t rfl) rfl, ?_⟩
  refine ⟨_, OpP.call1 hG (hmacOf_c _ _ (by first | omega | (simp; done) | (simp; omega) | (simp at *; omega)) (by first | omega | (simp; done) | (simp; omega) | (simp at *; omega))) (.cons (.t rfl) (.cons (.t rfl) .nil)) rfl, ?_⟩
  refine ⟨_, OpP.move (.t rfl) rfl, ?_⟩
  refine ⟨_, OpP.move (.t rfl) rfl, ?_⟩
  refine ⟨_, OpP.call1 hG (hmacOf_c _ _ (by first | omega | (simp; done) | (simp; omega) | (simp at *; omega)) (by first | omega | (simp; done) | (simp; omega) | (simp at *; omega))) (.cons (.t rfl) (.cons (.t rfl) .nil)) rfl, ?_⟩
  refine ⟨_, OpP.eqlA8 Tryd.underlying26 sz5 Tryd.underlying5 gd26 (.t rfl) (.t rfl) rfl, ?_⟩
  refine ⟨_, OpP.move (.t rfl) rfl, ?_⟩
  refine ⟨_, ⟨_, _, rfl, rfl, fun hg47 => OpP.move (.t rfl) rfl⟩, ?_⟩
  refine ⟨_, ⟨_, _, rfl, rfl, fun hg48 => OpP.move (.t rfl) rfl⟩, ?_⟩
  refine ⟨_, ⟨_, _, rfl, rfl, fun hg49 => OpP.call1 hG (hmacOf_c _ _ (by first | omega | (simp; done) | (simp; omega) | (simp at *; omega)) (by first | omega | (simp; done) | (simp; omega) | (simp at *; omega))) (.cons (.o rfl (beq_iff_eq.2 hg49)) (.cons (.o rfl (beq_iff_eq.2 hg49)) .nil)) rfl⟩, ?_⟩
  refine ⟨_, ⟨_, _, rfl, rfl, fun hg50 => OpP.slArrP (by decide) ar26 (.t rfl) rfl⟩, ?_⟩
  refine ⟨_, ⟨_, _, rfl, rfl, fun hg51 => OpP.move (.t rfl) rfl⟩, ?_⟩
  refine ⟨_, ⟨_, _, rfl, rfl, fun hg52 => OpP.call1 hG (hmacOf_c _ _ (by first | omega | (simp; done) | (simp; omega) | (simp at *; omega)) (by first | omega | (simp; done) | (simp; omega) | (simp at *; omega))) (.cons (.o rfl (beq_iff_eq.2 hg52)) (.cons (.o rfl (beq_iff_eq.2 hg52)) .nil)) rfl⟩, ?_⟩
  refine ⟨_, ⟨_, _, rfl, rfl, fun hg53 => OpP.eqlA8 Tryd.underlying26 sz5 Tryd.underlying5 gd26 (.o rfl (beq_iff_eq.2 hg53)) (.o rfl (beq_iff_eq.2 hg53)) rfl⟩, ?_⟩
  refine ⟨_, OpP.pickAnd (.t rfl) (fun hp => (.o rfl (beq_iff_eq.2 hp))) rfl, ?_⟩
  refine ⟨_, OpP.move (.t rfl) rfl, ?_⟩
  refine ⟨_, ⟨_, _, rfl, rfl, fun hg56 => OpP.call1 hG (awake2_c) .nil rfl⟩, ?_⟩
  refine ⟨_, OpP.pickAnd (.t rfl) (fun hp => (.o rfl (beq_iff_eq.2 hp))) rfl, ?_⟩
  refine ⟨_, OpP.assign (.t rfl) rfl, ?_⟩
  show wpB _ _ _ _ _ _ ((8, _) :: (57, _) :: (56, _) :: (55, _) :: (54, _) :: (53, _) :: (52, _) :: (51, _) :: (50, _) :: (49, _) :: (48, _) :: (47, _) :: (46, _) :: (45, _) :: (44, _) :: (43, _) :: (42, _) :: (41, _) :: (40, _) :: (39, _) :: _) _
  refine .nil ?_
  refine .ret ?_
  refine ⟨_, .r1 rfl (.tmp rfl), ?_⟩
  refine congrArg AV.v ?_
  rw [List.nil_append, show (default : UInt8) = 0 from rfl, hmac_zeros key m (((z.toNat : Int) % (65 - (key.length : Int))).toNat) (by omega), ← hmac_long (List.replicate (65 + (n.toNat : Int) % 100).toNat 0) m (by rw [List.length_replicate]; omega)]; simp
theorem setx (a : List UInt8) (k : Nat) (hk : k < a.length) (x : UInt8) : decide (a = a.set k (a[k] ^^^ x)) = (decide (x = 0) || decide (a = [])) := by
  have hne : a ≠ [] := by rintro rfl; simp at hk
  rw [decide_eq_false hne, Bool.or_false, decide_eq_decide]
  constructor
  · intro h
    have h2 : a[k] = (a.set k (a[k] ^^^ x))[k]'(by simpa using hk) := by
      have := congrArg (·[k]?) h
      simp only [List.getElem?_eq_getElem hk] at this
      rw [List.getElem?_eq_getElem (by simpa using hk)] at this
      exact Option.some.inj this
    rw [List.getElem_set_self] at h2
    have h3 := (u8_xor_zero a[k] (a[k] ^^^ x)).2 h2
    rwa [← UInt8.xor_assoc, UInt8.xor_self, UInt8.zero_xor] at h3
  · rintro rfl
    simp
theorem HmacEqual_c (a b : List UInt8) (at_ : Int) (x : UInt8) : FunA gl Tryd.prog 10 [.v a, .v b, .v at_, .v x] (fun r => r = .v true) := by
  refine FunA.intro Tryd.func10 rfl (by kernel_rfl) 75 rfl rfl _ rfl fun C hC hG => ?_
  refine .seq ?_
  refine .region rfl ?_
  refine .p (.assign .b ?_)
  refine .nil ?_
  refine .seq ?_
  refine .draw (by kernel_rfl) 12 [[], [], [(11, 1)], [(12, 2)], [(10, 0), (13, 3)], [], [], [(16, 6)], [(17, 7)], [(15, 5), (18, 8)], [(14, 4)], [(19, 9)]] rfl (by kernel_rfl) rfl ?_
  refine ⟨_, OpP.move (.t rfl) rfl, ?_⟩
  refine ⟨_, OpP.move (.t rfl) rfl, ?_⟩
  refine ⟨_, OpP.len Tryd.underlying22 (.t rfl) rfl, ?_⟩
  refine ⟨_, OpP.minI (.t rfl) (.i rfl) rfl, ?_⟩
  refine ⟨_, OpP.slHi ty5 Tryd.underlying22 (.t rfl) (.t rfl) (by first | omega | (simp; done) | (simp; omega) | (simp at *; omega)) (by first | omega | (simp; done) | (simp; omega) | (simp at *; omega)) rfl, ?_⟩
  refine ⟨_, OpP.move (.t rfl) rfl, ?_⟩
  refine ⟨_, OpP.move (.t rfl) rfl, ?_⟩
  refine ⟨_, OpP.len Tryd.underlying22 (.t rfl) rfl, ?_⟩
  refine ⟨_, OpP.minI (.t rfl) (.i rfl) rfl, ?_⟩
  refine ⟨_, OpP.slHi ty5 Tryd.underlying22 (.t rfl) (.t rfl) (by first | omega | (simp; done) | (simp; omega) | (simp at *; omega)) (by first | omega | (simp; done) | (simp; omega) | (simp at *; omega)) rfl, ?_⟩
  refine ⟨_, OpP.assign (.t rfl) rfl, ?_⟩
  refine ⟨_, OpP.assign (.t rfl) rfl, ?_⟩
  show wpB _ _ _ _ _ _ ((1, _) :: (0, _) :: (19, _) :: (18, _) :: (17, _) :: (16, _) :: (15, _) :: (14, _) :: (13, _) :: (12, _) :: (11, _) :: (10, _) :: _) _
  refine .nil ?_
  refine .seq ?_
  have ha3 : (List.take (min (a.length : Int) 300).toNat a).length ≤ 300 := by simp; omega
  generalize List.take (min (a.length : Int) 300).toNat a = a at *
  have hb3 : (List.take (min (b.length : Int) 300).toNat b).length ≤ 300 := by simp; omega
  generalize List.take (min (b.length : Int) 300).toNat b = b at *
  refine .region rfl ?_
  refine .h (.buildSlice (α := UInt8) ty5 Tryd.underlying22 .nil rfl (by decide) fun b20 => .p (.move (.t rfl) (.h (.append st22 (.inl ⟨_, Tryd.underlying22⟩) rfl .z (.v (.t rfl)) (by first | omega | (simp; done) | (simp; omega) | (simp at *; omega)) (by first | omega | (simp; done) | (simp; omega) | (simp at *; omega)) (fun w22 => .p (.assign (.t rfl) ?_)) rfl))))
  refine .nil ?_
  refine .seq ?_
  refine .seq ?_
  refine .region rfl ?_
  refine .p (.move (.t rfl) (.p (.lenOwn Tryd.underlying22 rfl .z (.p (.gtr (.t rfl) (.i rfl) ?_)))))
  refine .nil ?_
  refine .condP (.t rfl) (fun hc25 => ?_) (fun hc25 => ?_)
  · simp only [List.nil_append] at hc25 ⊢
    have hz0 := Int.emod_nonneg at_ (show (a.length : Int) ≠ 0 by omega)
    have hz1 := Int.emod_lt_of_pos at_ (show 0 < (a.length : Int) by omega)
    refine .region rfl ?_
    refine .p (.move (.t rfl) (.p (.move (.t rfl) (.p (.move (.t rfl) (.p (.lenOwn Tryd.underlying22 rfl .z (.p (.call1 hG (Within_c _ _ (by first | omega | (simp; done) | (simp; omega) | (simp at *; omega)) (by first | omega | (simp; done) | (simp; omega) | (simp at *; omega))) (.cons (.t rfl) (.cons (.t rfl) .nil)) (.p (.idxOwn ty5 Tryd.underlying22 rfl .z (.t rfl) (by first | omega | (simp; done) | (simp; omega) | (simp at *; omega)) (by first | omega | (simp; done) | (simp; omega) | (simp at *; omega)) ?_)))))))))))
    refine .p (.ldEW ty5 (.t rfl) .z (by first | omega | (simp; done) | (simp; omega) | (simp at *; omega)) (.p (.move (.t rfl) (.p (.xor8 (.t rfl) (.t rfl) (.p (.idxOwn ty5 Tryd.underlying22 rfl .z (.t rfl) (by first | omega | (simp; done) | (simp; omega) | (simp at *; omega)) (by first | omega | (simp; done) | (simp; omega) | (simp at *; omega)) (.n (.stEW ty5 (.t rfl) (.t rfl) .z (by first | omega | (simp; done) | (simp; omega) | (simp at *; omega)) ?_)))))))))
    refine .nil ?_
    refine .seq ?_
    try simp only [List.nil_append] at hc25
    refine .frzOwn hC .z ?_
    refine .as 9 rfl .z ?_
    refine .region rfl ?_
    refine .p (.move (.t rfl) (.p (.move (.t rfl) (.p (.call1 hG (Equal_c _ _) (.cons (.t rfl) (.cons (.t rfl) .nil)) (.p (.move (.t rfl) (.p (.move (.t rfl) (.p (.call1 hG (Same_c _ _) (.cons (.t rfl) (.cons (.t rfl) .nil)) ?_)))))))))))
    refine .p (.eqlBl Tryd.underlying4 (.t rfl) (.t rfl) (.p (.move (.t rfl) ?_)))
    refine .gk 43 rfl (.t rfl) (by simp; first | done | exact setx _ _ (by omega) _ | (right; exact List.eq_nil_of_length_eq_zero (by omega))) (.ofP (.move (.t rfl) ?_))
    refine .gk 43 rfl (.t rfl) (by simp; first | done | exact setx _ _ (by omega) _ | (right; exact List.eq_nil_of_length_eq_zero (by omega))) (.ofP (.move (.t rfl) ?_))
    refine .gk 43 rfl (.t rfl) (by simp; first | done | exact setx _ _ (by omega) _ | (right; exact List.eq_nil_of_length_eq_zero (by omega))) (.ofP (.call1 hG (Equal_c _ _) (.cons (.t rfl) (.cons (.t rfl) .nil)) ?_))
    refine .gk 43 rfl (.t rfl) (by simp; first | done | exact setx _ _ (by omega) _ | (right; exact List.eq_nil_of_length_eq_zero (by omega))) (.ofP (.move (.t rfl) ?_))
    refine .gk 43 rfl (.t rfl) (by simp; first | done | exact setx _ _ (by omega) _ | (right; exact List.eq_nil_of_length_eq_zero (by omega))) (.ofP (.eql8 (.t rfl) (.u8 0 rfl) ?_))
    refine .gk 43 rfl (.t rfl) (by simp; first | done | exact setx _ _ (by omega) _ | (right; exact List.eq_nil_of_length_eq_zero (by omega))) (.ofP (.move (.t rfl) ?_))
    refine .go 49 rfl (.t rfl) (fun hg50 => .move (.t rfl) rfl) ?_
    refine .go 49 rfl (.t rfl) (fun hg51 => .len Tryd.underlying22 (.o rfl (beq_iff_eq.2 hg51)) rfl) ?_
    refine .go 49 rfl (.t rfl) (fun hg52 => .eqlI (.o rfl (beq_iff_eq.2 hg52)) (.i rfl) rfl) ?_
    refine .gk 43 rfl (.t rfl) (by simp; first | done | exact setx _ _ (by omega) _ | (right; exact List.eq_nil_of_length_eq_zero (by omega))) (.ofP (.pickOr (.t rfl) (fun hp => (.o rfl (beq_iff_eq.2 hp))) ?_))
    refine .gk 43 rfl (.t rfl) (by simp; first | done | exact setx _ _ (by omega) _ | (right; exact List.eq_nil_of_length_eq_zero (by omega))) (.ofP (.eqlBl Tryd.underlying4 (.t rfl) (.t rfl) ?_))
    refine .p (.pickAnd (.t rfl) (fun hp => (.t rfl)) (.p (.move (.t rfl) ?_)))
    refine .gk 56 rfl (.t rfl) (by simp; first | done | exact setx _ _ (by omega) _ | (right; exact List.eq_nil_of_length_eq_zero (by omega))) (.ofP (.move (.t rfl) ?_))
    refine .gk 56 rfl (.t rfl) (by simp; first | done | exact setx _ _ (by omega) _ | (right; exact List.eq_nil_of_length_eq_zero (by omega))) (.ofP (.move (.t rfl) ?_))
    refine .gk 56 rfl (.t rfl) (by simp; first | done | exact setx _ _ (by omega) _ | (right; exact List.eq_nil_of_length_eq_zero (by omega))) (.ofP (.call1 hG (Equal_c _ _) (.cons (.t rfl) (.cons (.t rfl) .nil)) ?_))
    refine .p (.pickAnd (.t rfl) (fun hp => (.t rfl)) (.p (.move (.t rfl) ?_)))
    refine .gk 61 rfl (.t rfl) (by simp; first | done | exact setx _ _ (by omega) _ | (right; exact List.eq_nil_of_length_eq_zero (by omega))) (.ofP (.move (.t rfl) ?_))
    refine .gk 61 rfl (.t rfl) (by simp; first | done | exact setx _ _ (by omega) _ | (right; exact List.eq_nil_of_length_eq_zero (by omega))) (.buildSlice (α := UInt8) ty5 Tryd.underlying22 .nil rfl (by decide) fun b63 => ?_)
    refine .gk 61 rfl (.t rfl) (by simp; first | done | exact setx _ _ (by omega) _ | (right; exact List.eq_nil_of_length_eq_zero (by omega))) (.ofP (.move (.t rfl) ?_))
    refine .gk 61 rfl (.t rfl) (by simp; first | done | exact setx _ _ (by omega) _ | (right; exact List.eq_nil_of_length_eq_zero (by omega))) (.append st22 (.inl ⟨_, Tryd.underlying22⟩) rfl .z (.v (.t rfl)) (by first | omega | (simp; done) | (simp; omega) | (simp at *; omega)) (by first | omega | (simp; done) | (simp; omega) | (simp at *; omega)) (fun w65 => ?_) rfl)
    refine .gk 61 rfl (.t rfl) (by simp; first | done | exact setx _ _ (by omega) _ | (right; exact List.eq_nil_of_length_eq_zero (by omega))) (.ofP (.move (.t rfl) ?_))
    refine .gk 61 rfl (.t rfl) (by simp; first | done | exact setx _ _ (by omega) _ | (right; exact List.eq_nil_of_length_eq_zero (by omega))) (.buildSlice (α := UInt8) ty5 Tryd.underlying22 (.cons (.t rfl) .nil) rfl (by decide) fun b67 => ?_)
    refine .gk 61 rfl (.t rfl) (by simp; first | done | exact setx _ _ (by omega) _ | (right; exact List.eq_nil_of_length_eq_zero (by omega))) (.append st22 (.inl ⟨_, Tryd.underlying22⟩) rfl (.s .z) (.own rfl .z) (by first | omega | (simp; done) | (simp; omega) | (simp at *; omega)) (by first | omega | (simp; done) | (simp; omega) | (simp at *; omega)) (fun w68 => ?_) rfl)
    refine .frzOwn hC (.s .z) ?_
    refine .as 68 rfl (.s .z) ?_
    refine .gk 61 rfl (.t rfl) (by simp; first | done | exact setx _ _ (by omega) _ | (right; exact List.eq_nil_of_length_eq_zero (by omega))) (.ofP (.call1 hG (Equal_c _ _) (.cons (.t rfl) (.cons (.t rfl) .nil)) ?_))
    refine .gk 61 rfl (.t rfl) (by simp; first | done | exact setx _ _ (by omega) _ | (right; exact List.eq_nil_of_length_eq_zero (by omega))) (.ofP (.not (.t rfl) ?_))
    refine .p (.pickAnd (.t rfl) (fun hp => (.t rfl)) (.p (.move (.t rfl) ?_)))
    refine .gk 72 rfl (.t rfl) (by simp; first | done | exact setx _ _ (by omega) _ | (right; exact List.eq_nil_of_length_eq_zero (by omega))) (.ofP (.call1 hG (awake2_c) .nil ?_))
    refine .p (.pickAnd (.t rfl) (fun hp => (.t rfl)) (.p (.assign (.t rfl) ?_)))
    refine .nil ?_
    refine .ret ?_
    refine ⟨_, .r1 rfl (.tmp rfl), ?_⟩
    simp; first | done | exact setx _ _ (by omega) _ | (right; exact List.eq_nil_of_length_eq_zero (by omega))
  · refine .skip ?_
    refine .seq ?_
    try simp only [List.nil_append] at hc25
    refine .frzOwn hC .z ?_
    refine .as 9 rfl .z ?_
    refine .region rfl ?_
    refine .p (.move (.t rfl) (.p (.move (.t rfl) (.p (.call1 hG (Equal_c _ _) (.cons (.t rfl) (.cons (.t rfl) .nil)) (.p (.move (.t rfl) (.p (.move (.t rfl) (.p (.call1 hG (Same_c _ _) (.cons (.t rfl) (.cons (.t rfl) .nil)) ?_)))))))))))
    refine .p (.eqlBl Tryd.underlying4 (.t rfl) (.t rfl) (.p (.move (.t rfl) ?_)))
    refine .gk 43 rfl (.t rfl) (by simp; first | done | exact setx _ _ (by omega) _ | (right; exact List.eq_nil_of_length_eq_zero (by omega))) (.ofP (.move (.t rfl) ?_))
    refine .gk 43 rfl (.t rfl) (by simp; first | done | exact setx _ _ (by omega) _ | (right; exact List.eq_nil_of_length_eq_zero (by omega))) (.ofP (.move (.t rfl) ?_))
    refine .gk 43 rfl (.t rfl) (by simp; first | done | exact setx _ _ (by omega) _ | (right; exact List.eq_nil_of_length_eq_zero (by omega))) (.ofP (.call1 hG (Equal_c _ _) (.cons (.t rfl) (.cons (.t rfl) .nil)) ?_))
    refine .gk 43 rfl (.t rfl) (by simp; first | done | exact setx _ _ (by omega) _ | (right; exact List.eq_nil_of_length_eq_zero (by omega))) (.ofP (.move (.t rfl) ?_))
    refine .gk 43 rfl (.t rfl) (by simp; first | done | exact setx _ _ (by omega) _ | (right; exact List.eq_nil_of_length_eq_zero (by omega))) (.ofP (.eql8 (.t rfl) (.u8 0 rfl) ?_))
    refine .gk 43 rfl (.t rfl) (by simp; first | done | exact setx _ _ (by omega) _ | (right; exact List.eq_nil_of_length_eq_zero (by omega))) (.ofP (.move (.t rfl) ?_))
    refine .go 49 rfl (.t rfl) (fun hg50 => .move (.t rfl) rfl) ?_
    refine .go 49 rfl (.t rfl) (fun hg51 => .len Tryd.underlying22 (.o rfl (beq_iff_eq.2 hg51)) rfl) ?_
    refine .go 49 rfl (.t rfl) (fun hg52 => .eqlI (.o rfl (beq_iff_eq.2 hg52)) (.i rfl) rfl) ?_
    refine .gk 43 rfl (.t rfl) (by simp; first | done | exact setx _ _ (by omega) _ | (right; exact List.eq_nil_of_length_eq_zero (by omega))) (.ofP (.pickOr (.t rfl) (fun hp => (.o rfl (beq_iff_eq.2 hp))) ?_))
    refine .gk 43 rfl (.t rfl) (by simp; first | done | exact setx _ _ (by omega) _ | (right; exact List.eq_nil_of_length_eq_zero (by omega))) (.ofP (.eqlBl Tryd.underlying4 (.t rfl) (.t rfl) ?_))
    refine .p (.pickAnd (.t rfl) (fun hp => (.t rfl)) (.p (.move (.t rfl) ?_)))
    refine .gk 56 rfl (.t rfl) (by simp; first | done | exact setx _ _ (by omega) _ | (right; exact List.eq_nil_of_length_eq_zero (by omega))) (.ofP (.move (.t rfl) ?_))
    refine .gk 56 rfl (.t rfl) (by simp; first | done | exact setx _ _ (by omega) _ | (right; exact List.eq_nil_of_length_eq_zero (by omega))) (.ofP (.move (.t rfl) ?_))
    refine .gk 56 rfl (.t rfl) (by simp; first | done | exact setx _ _ (by omega) _ | (right; exact List.eq_nil_of_length_eq_zero (by omega))) (.ofP (.call1 hG (Equal_c _ _) (.cons (.t rfl) (.cons (.t rfl) .nil)) ?_))
    refine .p (.pickAnd (.t rfl) (fun hp => (.t rfl)) (.p (.move (.t rfl) ?_)))
    refine .gk 61 rfl (.t rfl) (by simp; first | done | exact setx _ _ (by omega) _ | (right; exact List.eq_nil_of_length_eq_zero (by omega))) (.ofP (.move (.t rfl) ?_))
    refine .gk 61 rfl (.t rfl) (by simp; first | done | exact setx _ _ (by omega) _ | (right; exact List.eq_nil_of_length_eq_zero (by omega))) (.buildSlice (α := UInt8) ty5 Tryd.underlying22 .nil rfl (by decide) fun b63 => ?_)
    refine .gk 61 rfl (.t rfl) (by simp; first | done | exact setx _ _ (by omega) _ | (right; exact List.eq_nil_of_length_eq_zero (by omega))) (.ofP (.move (.t rfl) ?_))
    refine .gk 61 rfl (.t rfl) (by simp; first | done | exact setx _ _ (by omega) _ | (right; exact List.eq_nil_of_length_eq_zero (by omega))) (.append st22 (.inl ⟨_, Tryd.underlying22⟩) rfl .z (.v (.t rfl)) (by first | omega | (simp; done) | (simp; omega) | (simp at *; omega)) (by first | omega | (simp; done) | (simp; omega) | (simp at *; omega)) (fun w65 => ?_) rfl)
    refine .gk 61 rfl (.t rfl) (by simp; first | done | exact setx _ _ (by omega) _ | (right; exact List.eq_nil_of_length_eq_zero (by omega))) (.ofP (.move (.t rfl) ?_))
    refine .gk 61 rfl (.t rfl) (by simp; first | done | exact setx _ _ (by omega) _ | (right; exact List.eq_nil_of_length_eq_zero (by omega))) (.buildSlice (α := UInt8) ty5 Tryd.underlying22 (.cons (.t rfl) .nil) rfl (by decide) fun b67 => ?_)
    refine .gk 61 rfl (.t rfl) (by simp; first | done | exact setx _ _ (by omega) _ | (right; exact List.eq_nil_of_length_eq_zero (by omega))) (.append st22 (.inl ⟨_, Tryd.underlying22⟩) rfl (.s .z) (.own rfl .z) (by first | omega | (simp; done) | (simp; omega) | (simp at *; omega)) (by first | omega | (simp; done) | (simp; omega) | (simp at *; omega)) (fun w68 => ?_) rfl)
    refine .frzOwn hC (.s .z) ?_
    refine .as 68 rfl (.s .z) ?_
    refine .gk 61 rfl (.t rfl) (by simp; first | done | exact setx _ _ (by omega) _ | (right; exact List.eq_nil_of_length_eq_zero (by omega))) (.ofP (.call1 hG (Equal_c _ _) (.cons (.t rfl) (.cons (.t rfl) .nil)) ?_))
    refine .gk 61 rfl (.t rfl) (by simp; first | done | exact setx _ _ (by omega) _ | (right; exact List.eq_nil_of_length_eq_zero (by omega))) (.ofP (.not (.t rfl) ?_))
    refine .p (.pickAnd (.t rfl) (fun hp => (.t rfl)) (.p (.move (.t rfl) ?_)))
    refine .gk 72 rfl (.t rfl) (by simp; first | done | exact setx _ _ (by omega) _ | (right; exact List.eq_nil_of_length_eq_zero (by omega))) (.ofP (.call1 hG (awake2_c) .nil ?_))
    refine .p (.pickAnd (.t rfl) (fun hp => (.t rfl)) (.p (.assign (.t rfl) ?_)))
    refine .nil ?_
    refine .ret ?_
    refine ⟨_, .r1 rfl (.tmp rfl), ?_⟩
    simp; first | done | exact setx _ _ (by omega) _ | (right; exact List.eq_nil_of_length_eq_zero (by omega))
theorem HmacDerive_c (key : Tag) (label : Str) (n : Int) (deck : List Int) : FunA gl Tryd.prog 11 [.v key, .v label, .v n, .v deck] (fun r => r = .v true) := by
  refine FunA.intro Tryd.func11 rfl (by kernel_rfl) 80 rfl rfl _ rfl fun C hC hG => ?_
  refine .seq ?_
  refine .region rfl ?_
  refine .h (.box (.t rfl) fun b4 => .p (.assign .b ?_))
  refine .nil ?_
  refine .seq ?_
  refine .region rfl ?_
  refine .p (.move (.t rfl) (.p (.move (.t rfl) (.p (.lenS Tryd.underlying9 (.t rfl) (.p (.minI (.t rfl) (.i rfl) (.p (.slStrHi Tryd.underlying9 (.t rfl) (.t rfl) (by first | omega | (simp; done) | (simp; omega) | (simp at *; omega)) (by first | omega | (simp; done) | (simp; omega) | (simp at *; omega)) (.p (.assign (.t rfl) ?_)))))))))))
  refine .nil ?_
  refine .seq ?_
  refine .region rfl ?_
  refine .p (.ldW ty26 (.t rfl) .z (.p (.move (.t rfl) (.p (.move (.t rfl) (.p (.call1 hG (Derive_c _ _ _ (by first | omega | (simp; done) | (simp; omega) | (simp at *; omega))) (.cons (.t rfl) (.cons (.t rfl) (.cons (.t rfl) .nil))) (.p (.move (.t rfl) (.p (.ext2_0 (.t rfl) ?_)))))))))))
  refine .p (.ext2_1 (.t rfl) (.h (.alloc ty26 fun b9 => .n (.stW ty26 (.t rfl) (.t rfl) .z (.p (.assign (.t rfl) ?_))))))
  refine .nil ?_
  refine .seq ?_
  refine .region rfl ?_
  refine .p (.ldW ty26 (.t rfl) (.s .z) (.p (.move (.t rfl) (.p (.move (.t rfl) (.p (.call1 hG (rDerive_c _ _ _ (by first | omega | (simp; done) | (simp; omega) | (simp at *; omega))) (.cons (.t rfl) (.cons (.t rfl) (.cons (.t rfl) .nil))) (.p (.move (.t rfl) (.p (.ext2_0 (.t rfl) ?_)))))))))))
  refine .p (.ext2_1 (.t rfl) (.h (.alloc ty26 fun b11 => .n (.stW ty26 (.t rfl) (.t rfl) .z (.p (.assign (.t rfl) ?_))))))
  refine .nil ?_
  refine .seq ?_
  refine .region rfl ?_
  refine .p (.move (.t rfl) (.h (.call0 hG (deckNew_c _) (.cons (.t rfl) .nil) fun r40 Hs40 hr40 => ?_)))
  obtain ⟨b40, rfl, rfl⟩ := hr40
  show wpB _ _ _ _ _ _ _ ((true, _) :: _)
  have hd : DeckOk (⟨deck, 0⟩ : G_macaroonmade_Deck) := Int.le_refl 0
  refine .p (.assign (.t rfl) ?_)
  refine .nil ?_
  refine .seq ?_
  refine .region rfl ?_
  refine .p (.move (.t rfl) (.h (.callM hG (Name_deck_c _ _ hd) .z (.cons (.t rfl) .nil) (by rintro _ _ ⟨_, _, _, _, _, rfl⟩; exact ⟨_, rfl⟩) fun r42 B42 hr42 => ?_)))
  obtain ⟨s, hs16, d1, hd', rfl, hB⟩ := hr42
  cases hB
  refine .p (.move (.t rfl) (.h (.callM hG (Upto_c _ _ _ hd' (by first | omega | (simp; done) | (simp; omega) | (simp at *; omega)) (by first | omega | (simp; done) | (simp; omega) | (simp at *; omega))) .z (.cons (.t rfl) (.cons (.i rfl) .nil)) (by rintro _ _ ⟨_, _, _, _, _, _, rfl⟩; exact ⟨_, rfl⟩) fun r44 B44 hr44 => ?_)))
  obtain ⟨x, hx0, hx1, d2, hd2, rfl, hB⟩ := hr44
  cases hB
  refine .p (.assign (.t rfl) (.p (.assign (.t rfl) ?_)))
  refine .nil ?_
  refine .seq ?_
  refine .region rfl ?_
  refine .p (.ldW ty26 (.t rfl) (.s (.s (.s .z))) (.p (.move (.t rfl) (.p (.move (.t rfl) (.p (.call1 hG (Derive_c _ _ _ (by first | omega | (simp; done) | (simp; omega) | (simp at *; omega))) (.cons (.t rfl) (.cons (.t rfl) (.cons (.t rfl) .nil))) (.p (.move (.t rfl) (.p (.ext2_0 (.t rfl) ?_)))))))))))
  refine .p (.ext2_1 (.t rfl) (.h (.alloc ty26 fun b16 => .n (.stW ty26 (.t rfl) (.t rfl) .z (.p (.assign (.t rfl) ?_))))))
  refine .nil ?_
  refine .seq ?_
  refine .region rfl ?_
  refine .p (.ldW ty26 (.t rfl) (.s (.s (.s (.s .z)))) (.p (.move (.t rfl) (.p (.move (.t rfl) (.p (.call1 hG (rDerive_c _ _ _ (by first | omega | (simp; done) | (simp; omega) | (simp at *; omega))) (.cons (.t rfl) (.cons (.t rfl) (.cons (.t rfl) .nil))) (.p (.move (.t rfl) (.p (.ext2_0 (.t rfl) ?_)))))))))))
  refine .p (.ext2_1 (.t rfl) (.h (.alloc ty26 fun b18 => .n (.stW ty26 (.t rfl) (.t rfl) .z (.p (.assign (.t rfl) ?_))))))
  refine .nil ?_
  refine .seq ?_
  refine .region rfl ?_
  refine .p (.ldW ty26 (.t rfl) (.s (.s (.s (.s .z)))) (.p (.ldW ty26 (.t rfl) (.s (.s (.s .z))) (.p (.eqlA8 Tryd.underlying26 sz5 Tryd.underlying5 gd26 (.t rfl) (.t rfl) (.p (.move (.t rfl) ?_)))))))
  refine .gk 62 rfl (.t rfl) (by simp) (.ofP (.move (.t rfl) ?_))
  refine .gk 62 rfl (.t rfl) (by simp) (.ofP (.move (.t rfl) ?_))
  refine .gk 62 rfl (.t rfl) (by simp) (.ofP (.eqlI (.t rfl) (.t rfl) ?_))
  refine .p (.pickAnd (.t rfl) (fun hp => (.t rfl)) (.p (.move (.t rfl) ?_)))
  refine .gk 67 rfl (.t rfl) (by simp) (.ofP (.ldW ty26 (.t rfl) (.s .z) ?_))
  refine .gk 67 rfl (.t rfl) (by simp) (.ofP (.ldW ty26 (.t rfl) .z ?_))
  refine .gk 67 rfl (.t rfl) (by simp) (.ofP (.eqlA8 Tryd.underlying26 sz5 Tryd.underlying5 gd26 (.t rfl) (.t rfl) ?_))
  refine .p (.pickAnd (.t rfl) (fun hp => (.t rfl)) (.p (.move (.t rfl) ?_)))
  refine .gk 72 rfl (.t rfl) (by simp) (.ofP (.move (.t rfl) ?_))
  refine .gk 72 rfl (.t rfl) (by simp) (.ofP (.move (.t rfl) ?_))
  refine .gk 72 rfl (.t rfl) (by simp) (.ofP (.eqlI (.t rfl) (.t rfl) ?_))
  refine .p (.pickAnd (.t rfl) (fun hp => (.t rfl)) (.p (.move (.t rfl) ?_)))
  refine .gk 77 rfl (.t rfl) (by simp) (.ofP (.call1 hG (awake2_c) .nil ?_))
  refine .p (.pickAnd (.t rfl) (fun hp => (.t rfl)) (.p (.assign (.t rfl) ?_)))
  refine .nil ?_
  refine .ret ?_
  refine ⟨_, .r1 rfl (.tmp rfl), ?_⟩
  simp
end Go.Proofs.YtlohppddhbimnaaDoor
