/- Walks of the reference algebra, and of symbols. -/
import Derived.Test.YtiekhjbhlekaeaaDoorAl
set_option maxRecDepth 1000000
set_option linter.unusedVariables false
set_option linter.unusedSimpArgs false
namespace Go.Proofs.YtiekhjbhlekaeaaDoor
open Go.Fl Go.Ab Go.Mac Go.Sha
def symL (kind : UInt8) (n : Int) (k : Nat) : List UInt8 := [115, 121, 109, 98, 111, 108] ++ [kind] ++ be64 (UInt64.ofInt n) k
def symTag (kind : UInt8) (n : Int) : Tag := arrCopy default (symL kind n 8)
theorem shr_split (k : Nat) (hk : k ≤ 56) (q : Int) (m : Nat) : (18446744073709551616 * q + (m : Int)) / ((2 ^ k : Nat) : Int) = 256 * ((2 ^ (56 - k) : Nat) * q) + ((m / 2 ^ k : Nat) : Int) := by
  have hp : ((2 ^ k : Nat) : Int) ≠ 0 := by have := Nat.pow_pos (n := k) (show 0 < 2 by decide); omega
  have h64 : (18446744073709551616 : Int) = ((2 ^ k : Nat) : Int) * (256 * (2 ^ (56 - k) : Nat)) := by
    have : (18446744073709551616 : Nat) = 2 ^ k * (256 * 2 ^ (56 - k)) := by
      rw [show (256 : Nat) = 2 ^ 8 by decide, ← Nat.pow_add, ← Nat.pow_add, show k + (8 + (56 - k)) = 64 by omega]
    have h2 := congrArg (fun x : Nat => (x : Int)) this
    simp only [Int.natCast_mul] at h2
    exact h2
  rw [h64, Int.mul_assoc, Int.mul_add_ediv_left _ _ hp, Int.mul_assoc]
  simp
theorem ofInt_shr2 (n : Int) (k : Nat) (hk : k ≤ 56) : UInt8.ofInt (n >>> k) = (UInt64.ofInt n >>> UInt64.ofNat k).toUInt8 := by
  apply UInt8.toNat_inj.1
  have e1 : (UInt64.ofInt n).toNat = (n % 18446744073709551616).toNat := by simp [UInt64.ofInt]; omega
  have e2 : (UInt64.ofNat k).toNat = k := by simp; omega
  have e3 : (UInt8.ofInt (n >>> k)).toNat = ((n >>> k) % 256).toNat := by
    generalize n >>> k = q
    simp [UInt8.ofInt]; omega
  rw [e3, UInt64.toNat_toUInt8, UInt64.toNat_shiftRight, e1, e2, Nat.mod_eq_of_lt (show k < 64 by omega), Nat.shiftRight_eq_div_pow, Int.shiftRight_eq_div_pow]
  have h0 : 0 ≤ n % 18446744073709551616 := Int.emod_nonneg _ (by decide)
  obtain ⟨m, hm⟩ := Int.eq_ofNat_of_zero_le h0
  have hq := Int.mul_ediv_add_emod n 18446744073709551616
  rw [hm] at hq ⊢
  have e4 := shr_split k hk (n / 18446744073709551616) m
  rw [hq] at e4
  rw [e4, Int.toNat_natCast]
  generalize (((2 ^ (56 - k) : Nat) : Int) * (n / 18446744073709551616)) = z
  generalize m / 2 ^ k = y
  show ((256 * z + (y : Int)) % 256).toNat = y % 256
  omega
theorem algNew_c (free : Bool) (seed : Tag) : FunA gl Tryd.prog 29 [.v free, .v seed] (fun r => r = .v (⟨free, seed, 0, [], []⟩ : G_api_Algebra)) := by
  refine FunA.intro Tryd.func29 rfl (by kernel_rfl) 8 rfl rfl _ rfl fun C hC hG => ?_
  refine .seq ?_
  refine .region rfl ?_
  refine .h (.box (.t rfl) fun b3 => .h (.alloc ty32 fun b4 => ?_))
  refine .nil ?_
  refine .seq ?_
  refine .region rfl ?_
  refine .p (.move (.t rfl) (.p (.ldW ty28 (.t rfl) (.s .z) (.p (.bS2 G_api_Algebra.l0 G_api_Algebra.l1 rfl ty32 fo32 (fun c0 c1 => (⟨c0, c1, 0, [], []⟩ : G_api_Algebra)) (fun _ _ => rfl) rfl rfl rfl (.t rfl) (.t rfl) (.n (.stW ty32 (.t rfl) (.t rfl) .z ?_)))))))
  refine .nil ?_
  refine .ret ?_
  refine ⟨_, .r1 rfl (.cell ty32 rfl .z), ?_⟩
  rfl
theorem rNew_c (free : Bool) (seed : Tag) : FunA gl Tryd.prog 30 [.v free, .v seed] (fun r => r = .v (⟨free, seed, 0, [], []⟩ : G_api_Algebra)) := by
  refine FunA.intro Tryd.func30 rfl (by kernel_rfl) 8 rfl rfl _ rfl fun C hC hG => ?_
  refine .seq ?_
  refine .region rfl ?_
  refine .h (.box (.t rfl) fun b3 => .h (.alloc ty32 fun b4 => ?_))
  refine .nil ?_
  refine .seq ?_
  refine .region rfl ?_
  refine .p (.move (.t rfl) (.p (.ldW ty28 (.t rfl) (.s .z) (.p (.bS2 G_api_Algebra.l0 G_api_Algebra.l1 rfl ty32 fo32 (fun c0 c1 => (⟨c0, c1, 0, [], []⟩ : G_api_Algebra)) (fun _ _ => rfl) rfl rfl rfl (.t rfl) (.t rfl) (.n (.stW ty32 (.t rfl) (.t rfl) .z ?_)))))))
  refine .nil ?_
  refine .ret ?_
  refine ⟨_, .r1 rfl (.cell ty32 rfl .z), ?_⟩
  rfl
theorem rSymbol_c (kind : UInt8) (n : Int) : FunA gl Tryd.prog 32 [.v kind, .v n] (fun r => r = .v (symTag kind n)) := by
  refine FunA.intro Tryd.func32 rfl (by kernel_rfl) 18 rfl rfl _ rfl fun C hC hG => ?_
  have hbe := be64_length (UInt64.ofInt n) 8
  refine .seq ?_
  refine .region rfl ?_
  refine .h (.alloc ty28 fun b4 => ?_)
  refine .nil ?_
  refine .seq ?_
  refine .region rfl ?_
  refine .h (.alloc ty28 fun b5 => ?_)
  refine .nil ?_
  refine .seq ?_
  refine .drawCF [true, false] (by kernel_rfl) 11 [[], [], [(7, 1)], [], [(9, 3)], [(8, 2), (10, 4)], [], [(12, 6)], [(13, 7)], [(11, 5), (14, 8)], [(6, 0), (15, 9)]] [1, 2, 5, 9, 10] rfl (by kernel_rfl) rfl (by kernel_rfl) (by decide) ?_
  refine ⟨_, fun H => OpP.slArrL ar28 (.t rfl) rfl, ?_⟩
  refine .inl ?_
  refine .inl ?_
  refine ⟨_, fun H => OpP.move (.t rfl) rfl, ?_⟩
  refine ⟨_, fun H => OpP.buildSliceF (α := UInt8) ty5 Tryd.underlying23 (.cons (.t rfl) .nil) rfl (by decide) rfl, ?_⟩
  refine .inl ?_
  refine ⟨_, fun H => OpP.move (.t rfl) rfl, ?_⟩
  refine ⟨_, fun H => OpP.conv64 Tryd.underlying3 Tryd.underlying90 (.t rfl) rfl, ?_⟩
  refine ⟨_, fun H => OpP.call1 hG (Eight_c _) (.cons (.t rfl) .nil) rfl, ?_⟩
  refine .inl ?_
  refine .inl ?_
  refine ⟨⟨([], fun k => List.getD [_, (true, .none_)] k (true, .none_)), rfl⟩, ?_⟩
  refine OpH.buildSlice (α := UInt8) ty5 Tryd.underlying23 (.cons (.u8 115 rfl) (.cons (.u8 121 rfl) (.cons (.u8 109 rfl) (.cons (.u8 98 rfl) (.cons (.u8 111 rfl) (.cons (.u8 108 rfl) .nil)))))) rfl (by decide) fun b7 => ?_
  refine ⟨⟨([_], fun k => List.getD [_, (true, .none_)] k (true, .none_)), rfl⟩, ?_⟩
  refine OpH.same Tryd.underlying23 Tryd.underlying5 rfl .z (by simp) ?_
  refine ⟨⟨([_], fun k => List.getD [_, (true, .none_)] k (true, .none_)), rfl⟩, ?_⟩
  refine OpH.append st23 (.inl ⟨_, Tryd.underlying23⟩) rfl .z (.v (.c rfl)) (by first | omega | (simp; done) | (simp; omega) | (simp at *; omega)) (by first | omega | (simp; done) | (simp; omega) | (simp at *; omega)) (fun w11 => ?_) rfl
  refine ⟨⟨([_], fun k => List.getD [_, (true, .none_)] k (true, .none_)), rfl⟩, ?_⟩
  refine OpH.append st23 (.inl ⟨_, Tryd.underlying23⟩) rfl .z (.v (.t rfl)) (by first | omega | (simp; done) | (simp; omega) | (simp at *; omega)) (by first | omega | (simp; done) | (simp; omega) | (simp at *; omega)) (fun w15 => ?_) rfl
  refine ⟨⟨([_], fun k => List.getD [_, (true, .none_)] k (true, .none_)), rfl⟩, ?_⟩
  refine OpH.copySv ty5 Tryd.underlying23 (.t rfl) (.s .z) (.own rfl .z) (by first | omega | (simp; done) | (simp; omega) | (simp at *; omega)) ?_
  refine ⟨⟨([_], fun k => List.getD [_, (true, .none_)] k (true, .none_)), rfl⟩, ?_⟩
  show wpB _ _ _ _ _ _ ((16, _) :: (15, _) :: (14, _) :: (13, _) :: (12, _) :: (11, _) :: (10, _) :: (9, _) :: (8, _) :: (7, _) :: (6, _) :: _) _
  refine .nil ?_
  refine .seq ?_
  refine .region rfl ?_
  refine .p (.ldW ty28 (.t rfl) (.s .z) (.n (.stW ty28 (.t rfl) (.t rfl) (.s (.s .z)) ?_)))
  refine .nil ?_
  refine .ret ?_
  refine ⟨_, .r1 rfl (.cell ty28 rfl (.s (.s .z))), ?_⟩
  rfl
theorem symL_length (kind : UInt8) (n : Int) (k : Nat) : (symL kind n k).length = 7 + k := by simp [symL, be64_length]; omega
theorem arrCopy_set (m : List UInt8) (i : Nat) (h : i = m.length) (hi : i < 32) (c : UInt8) (h2 : _) : (⟨(arrCopy (default : Tag) m).l.set i c, h2⟩ : Tag) = arrCopy default (m ++ [c]) := by
  subst h
  apply Arr.ext
  show (m.take 32 ++ (List.replicate 32 default).drop m.length).set m.length c = (m ++ [c]).take 32 ++ (List.replicate 32 default).drop (m ++ [c]).length
  rw [List.take_of_length_le (by omega), List.take_of_length_le (by simp; omega), List.length_append, List.drop_replicate, List.drop_replicate, List.set_append_right _ _ (Nat.le_refl _), Nat.sub_self]
  obtain ⟨q, hq⟩ : ∃ q, 32 - m.length = q + 1 := ⟨31 - m.length, by omega⟩
  rw [hq, show 32 - (m.length + [c].length) = q by simp; omega, List.replicate_succ]
  simp
theorem Symbol_c (kind : UInt8) (n : Int) : FunA gl Tryd.prog 31 [.v kind, .v n] (fun r => r = .v (symTag kind n)) := by
  refine FunA.intro Tryd.func31 rfl (by kernel_rfl) 25 rfl rfl _ rfl fun C hC hG => ?_
  refine .seq ?_
  refine .region rfl ?_
  refine .h (.alloc ty28 fun b4 => ?_)
  refine .nil ?_
  refine .seq ?_
  refine .region rfl ?_
  refine .h (.alloc ty28 fun b5 => ?_)
  refine .nil ?_
  refine .seq ?_
  refine .region rfl ?_
  refine .p (.slArrL ar28 (.t rfl) (.h (.copySv ty5 Tryd.underlying23 (.t rfl) .z (.str (.s [115, 121, 109, 98, 111, 108] (by decide) (by decide))) (by first | omega | (simp; done) | (simp; omega) | (simp at *; omega)) ?_)))
  refine .nil ?_
  refine .seq ?_
  refine .region rfl ?_
  refine .p (.move (.t rfl) (.p (.idxW ar28 (.t rfl) (.i rfl) (by first | omega | (simp; done) | (simp; omega) | (simp at *; omega)) (by first | omega | (simp; done) | (simp; omega) | (simp at *; omega)) (.n (.stL ty5 (.t rfl) (.t rfl) .z ?_)))))
  refine .nil ?_
  refine .seq ?_
  refine .seq ?_
  refine .region rfl ?_
  refine .p (.move (.i rfl) ?_)
  refine .nil ?_
  refine .block ?_
  refine .loopR (α := Nat) [(1, _), (4, _), (5, _)] (fun k R => (11, .v (k : Int)) :: R) (fun k => [(true, .ob (ptr b5 0) (arrCopy (default : Tag) (symL kind n k))), (true, .ob (ptr b4 0) (default : Tag))]) (fun k => k ≤ 8) (fun k => 8 - k) (0) (.cons rfl (.cons rfl (.cons rfl (.nil _)))) ?_ (.cons rfl (.cons rfl (.cons rfl (.cons rfl (.nil _))))) (congrArg (fun q => [(true, Blk.ob _ q), _]) (Arr.ext rfl)) fun k hF => ?_
  · simp
  refine .seq ?_
  refine .region rfl ?_
  refine .p (.lss (.t rfl) (.i rfl) ?_)
  refine .nil ?_
  refine .seq ?_
  refine .condP (.t rfl) (fun hc12 => ?_) (fun hc12 => ?_)
  · refine .skip ?_
    refine .seq ?_
    refine .block ?_
    refine .seq ?_
    refine .region rfl ?_
    refine .p (.move (.t rfl) (.p (.assign (.t rfl) ?_)))
    refine .nil ?_
    refine .region rfl ?_
    refine .p (.move (.t rfl) (.p (.add (.i rfl) (.t rfl) (by first | omega | (simp; done) | (simp; omega) | (simp at *; omega)) (by first | omega | (simp; done) | (simp; omega) | (simp at *; omega)) (.p (.move (.t rfl) (.p (.move (.t rfl) (.p (.mul (.i rfl) (.t rfl) (by first | omega | (simp; done) | (simp; omega) | (simp at *; omega)) (by first | omega | (simp; done) | (simp; omega) | (simp at *; omega)) (.p (.sub (.i rfl) (.t rfl) (by first | omega | (simp; done) | (simp; omega) | (simp at *; omega)) (by first | omega | (simp; done) | (simp; omega) | (simp at *; omega)) ?_)))))))))))
    refine .p (.shrI (.t rfl) (.t rfl) (by first | omega | (simp; done) | (simp; omega) | (simp at *; omega)) (by first | omega | (simp; done) | (simp; omega) | (simp at *; omega)) (.p (.conv8 Tryd.underlying3 Tryd.underlying5 (.t rfl) (.p (.idxW ar28 (.t rfl) (.t rfl) (by first | omega | (simp; done) | (simp; omega) | (simp at *; omega)) (by first | omega | (simp; done) | (simp; omega) | (simp at *; omega)) (.n (.stL ty5 (.t rfl) (.t rfl) .z ?_)))))))
    refine .nil ?_
    refine .region rfl ?_
    refine .p (.add (.t rfl) (.i rfl) (by first | omega | (simp; done) | (simp; omega) | (simp at *; omega)) (by first | omega | (simp; done) | (simp; omega) | (simp at *; omega)) (.p (.move (.t rfl) ?_)))
    refine .nil ?_
    refine ⟨k + 1, .cons rfl (.cons rfl (.cons rfl (.cons rfl (.nil _)))), congrArg (fun q => [(true, Blk.ob _ q), _]) (by rw [show symL kind n (k + 1) = symL kind n k ++ [UInt8.ofInt (n >>> (56 - 8 * (k : Int)).toNat)] by rw [ofInt_shr2 _ _ (by omega), show (56 - 8 * (k : Int)).toNat = 56 - 8 * k by omega, symL, symL, be64_succ, List.append_assoc, List.append_assoc, List.append_assoc]]; exact arrCopy_set _ _ (by rw [symL_length]; omega) (by omega) _ _), ?_, by omega⟩
    omega
  · refine .exit ?_
    refine .seq ?_
    refine .region rfl ?_
    refine .p (.ldW ty28 (.t rfl) .z (.n (.stW ty28 (.t rfl) (.t rfl) (.s .z) ?_)))
    refine .nil ?_
    refine .ret ?_
    refine ⟨_, .r1 rfl (.cell ty28 rfl (.s .z)), ?_⟩
    obtain rfl : k = 8 := by omega
    rfl
end Go.Proofs.YtiekhjbhlekaeaaDoor
