/- Plain Lean over any program, and walks of this seat's functions: contracts, each proved once (part 4). -/
import Derived.Test.YtkjpkdpnlioffaaDoorZ3
import Derived.Laws.StructEq
import Derived.ProofKit
import Derived.OpenShut
import Derived.ShutString
import Derived.ChangeOld
import Derived.Below
import Derived.LaidLaws
import Derived.Handed
import Derived.DataReads
import Derived.Test.YtkjpkdpnlioffaaDoorRows
import Derived.Test.YtkjpkdpnlioffaaDoorTie
import Derived.Test.YtkjpkdpnlioffaaDoorCards
import Derived.SevenTiedAt
set_option maxRecDepth 1000000
set_option linter.unusedVariables false
set_option linter.unusedSimpArgs false
namespace Go.Proofs.YtkjpkdpnlioffaaDoor
open Go.Fl Go.Ab Go.Mac Go.Sha
def numL (n : Nat) : List UInt8 := if n < 128 then [UInt8.ofNat n] else UInt8.ofNat (n % 128 + 128) :: numL (n / 128)
termination_by n
theorem numL_lt {n : Nat} (h : n < 128) : numL n = [UInt8.ofNat n] := by rw [numL, if_pos h]
theorem numL_ge {n : Nat} (h : ¬ n < 128) : numL n = UInt8.ofNat (n % 128 + 128) :: numL (n / 128) := by rw [numL, if_neg h]
theorem numL_length (k n : Nat) (h : n < 128 ^ (k + 1)) : (numL n).length ≤ k + 1 := by
  induction k generalizing n with
  | zero => rw [numL_lt (by simpa using h)]; simp
  | succ k ih =>
    by_cases h1 : n < 128
    · rw [numL_lt h1]; simp
    · rw [numL_ge h1, List.length_cons]
      have := ih (n / 128) (by rw [Nat.pow_succ] at h; omega)
      omega
theorem numL_le7 {n : Nat} (h : n ≤ 281474976710656) : (numL n).length ≤ 7 := numL_length 6 n (by omega)
theorem numL_pos (n : Nat) : 0 < (numL n).length := by
  rw [numL]; split <;> simp
theorem and127 (n : Nat) : n &&& 127 = n % 128 := Nat.and_two_pow_sub_one_eq_mod n 7
theorem or128 {n : Nat} (h : n < 128) : n ||| 128 = n + 128 := by
  have := Nat.two_pow_add_eq_or_of_lt (i := 7) (b := n) (by simpa using h) 1
  rw [Nat.or_comm]; simpa [Nat.add_comm] using this.symm
theorem ofInt8_nat (n : Nat) : UInt8.ofInt (n : Int) = UInt8.ofNat n := by apply UInt8.toNat_inj.1; simp [UInt8.ofInt]; omega
def numBad (n : Int) : Bool := decide (n < 0) || decide (281474976710656 < n)
theorem numBad_false {n : Int} (h0 : 0 ≤ n) (h1 : n ≤ 281474976710656) : numBad n = false := by unfold numBad; simp; omega
theorem rNumber_own (n : Int) (h0 : 0 ≤ n) (h1 : n ≤ 281474976710656) : FunH gl Tryd.prog 72 [.v n] [] (fun r Hs => ∃ u, r = .raw u ∧ Hs = [.own 5 u (numL n.toNat)]) := by
  have hlen := numL_le7 (n := n.toNat) (by omega)
  refine FunH.introD Tryd.func72 rfl (by kernel_rfl) 20 rfl rfl _ rfl _ rfl fun C hC hG => ?_
  refine .seq ?_
  refine .region rfl ?_
  refine .p (.assign .raw ?_)
  refine .nil ?_
  refine .seq ?_
  refine .region rfl ?_
  refine .p (.assign .raw ?_)
  refine .nilOwn 5 UInt8 ?_
  refine .nil ?_
  refine .seq ?_
  refine .block ?_
  refine .loopR (α := Nat × Value × List UInt8) [] (fun x R => (0, .v (x.1 : Int)) :: (3, .raw x.2.1) :: R) (fun x => [(true, .own 5 x.2.1 x.2.2)]) (fun x => x.2.2 ++ numL x.1 = numL n.toNat) (fun x => x.1) ((n.toNat, .slice none 0 0, [])) (.nil _) ?_ (.cons (congrArg (fun q => some (AV.v q)) (by dsimp only; omega)) (.cons rfl (.nil _))) (rfl) fun x hF => ?_
  · rfl
  obtain ⟨k, w, l⟩ := x
  dsimp only at hF ⊢
  have hl9 := congrArg List.length hF
  rw [List.length_append] at hl9
  refine .seq ?_
  refine .seq ?_
  refine .region rfl ?_
  refine .p (.move (.t rfl) (.p (.gtr (.t rfl) (.i rfl) ?_)))
  refine .nil ?_
  refine .condP (.t rfl) (fun hc5 => ?_) (fun hc5 => ?_)
  · refine .skip ?_
    refine .block ?_
    refine .seq ?_
    refine .region rfl ?_
    refine .p (.move (.t rfl) (.p (.move (.t rfl) (.p (.rem (.t rfl) (.i rfl) (by first | omega | (simp; done) | (simp; omega) | (simp at *; omega)) (by first | omega | (simp; done) | (simp; omega) | (simp at *; omega)) (.p (.add (.t rfl) (.i rfl) (by first | omega | (simp; done) | (simp; omega) | (simp at *; omega)) (by first | omega | (simp; done) | (simp; omega) | (simp at *; omega)) (.p (.conv8 Tryd.underlying3 Tryd.underlying5 (.t rfl) (.h (.buildSlice (α := UInt8) ty5 Tryd.underlying25 (.cons (.t rfl) .nil) rfl (by decide) fun b11 => ?_)))))))))))
    refine .h (.append st25 (.inl ⟨_, Tryd.underlying25⟩) rfl (.s .z) (.own rfl .z) (by first | omega | (simp; done) | (simp; omega) | (simp at *; omega)) (by first | omega | (simp; done) | (simp; omega) | (simp at *; omega)) (fun w12 => .p (.assign (.t rfl) ?_)) rfl)
    refine .drop ?_
    refine .nil ?_
    refine .region rfl ?_
    refine .p (.move (.t rfl) (.p (.quo (.t rfl) (.i rfl) (by first | omega | (simp; done) | (simp; omega) | (simp at *; omega)) (by first | omega | (simp; done) | (simp; omega) | (simp at *; omega)) (.p (.assign (.t rfl) ?_)))))
    refine .nil ?_
    refine ⟨(k / 128, w12, _), .cons (congrArg (fun q => some (AV.v q)) (by dsimp only; omega)) (.cons rfl (.nil _)), rfl, ?_, by dsimp only; omega⟩
    dsimp only; rw [← hF, numL_ge (n := k) (by omega), List.append_assoc, show ((k : Int) % 128 + 128) = ((k % 128 + 128 : Nat) : Int) by omega, ofInt8_nat]; rfl
  · refine .exit ?_
    refine .seq ?_
    refine .region rfl ?_
    refine .p (.move (.t rfl) (.p (.move (.t rfl) (.p (.conv8 Tryd.underlying3 Tryd.underlying5 (.t rfl) (.h (.buildSlice (α := UInt8) ty5 Tryd.underlying25 (.cons (.t rfl) .nil) rfl (by decide) fun b18 => .h (.append st25 (.inl ⟨_, Tryd.underlying25⟩) rfl (.s .z) (.own rfl .z) (by first | omega | (simp; done) | (simp; omega) | (simp at *; omega)) (by first | omega | (simp; done) | (simp; omega) | (simp at *; omega)) (fun w19 => .p (.assign (.t rfl) ?_)) rfl))))))))
    refine .nil ?_
    refine .ret ?_
    refine ⟨_, .r1 rfl (.tmp rfl), ?_⟩
    exact ⟨1, _, rfl, by rw [← hF, numL_lt (n := k) (by omega), ← ofInt8_nat]; rfl⟩
theorem rNumber_c (n : Int) (h0 : 0 ≤ n) (h1 : n ≤ 281474976710656) : FunA gl Tryd.prog 72 [.v n] (fun r => r = .v (numL n.toNat)) := (rNumber_own n h0 h1).frzA
theorem sliceClone_own (b : List UInt8) (hb : b.length ≤ 1000000) : FunH gl Tryd.prog 74 [.v b] [] (fun r Hs => ∃ u, r = .raw u ∧ Hs = [.own 5 u b]) := by
  refine FunH.introS Tryd.func74 rfl (by kernel_rfl) 8 rfl rfl _ rfl _ rfl fun C hC hG => ?_
  refine .seq ?_
  refine .region rfl ?_
  refine .p (.assign .raw ?_)
  refine .nil ?_
  refine .seq ?_
  refine .seq ?_
  refine .region rfl ?_
  refine .p (.move (.t rfl) (.p (.eqNilS Tryd.underlying25 (.t rfl) fun c4 hn4 => ?_)))
  refine .nil ?_
  refine .cond (.t rfl) (fun hc4 => ?_) (fun hc4 => ?_)
  · refine .seq ?_
    refine .region rfl ?_
    refine .p (.assign .raw ?_)
    refine .nil ?_
    refine .nilOwn 5 UInt8 ?_
    refine .ret ?_
    refine ⟨_, .r1 rfl (.tmp rfl), ?_⟩
    refine ⟨_, .cons .z (.nil), ?_⟩
    rw [hn4 hc4]; exact ⟨_, rfl, rfl⟩
  · refine .skip ?_
    refine .seq ?_
    refine .region rfl ?_
    refine .h (.buildSlice (α := UInt8) ty5 Tryd.underlying25 .nil rfl (by decide) fun b5 => .p (.move (.t rfl) (.h (.append st25 (.inl ⟨_, Tryd.underlying25⟩) rfl .z (.v (.t rfl)) (by first | omega | (simp; done) | (simp; omega) | (simp at *; omega)) (by first | omega | (simp; done) | (simp; omega) | (simp at *; omega)) (fun w7 => .p (.assign (.t rfl) ?_)) rfl))))
    refine .nil ?_
    refine .ret ?_
    refine ⟨_, .r1 rfl (.tmp rfl), ?_⟩
    refine ⟨_, .cons .z (.nil), ?_⟩
    rw [List.nil_append]; exact ⟨w7, rfl, rfl⟩
theorem shr7 (k : Nat) : ((k : Int) >>> (7 : Nat)) = ((k / 128 : Nat) : Int) := by rw [Int.shiftRight_eq_div_pow]; rfl
theorem vrApp_own (b : List UInt8) (n : Int) (hb : b.length ≤ 900000) (h0 : 0 ≤ n) (h1 : n ≤ 281474976710656) : FunH gl Tryd.prog 59 [.v b, .v n] [] (fun r Hs => ∃ u, r = .t2 (.raw u) (.v (0 : Int)) ∧ Hs = [.own 5 u (b ++ numL n.toNat)]) := by
  have hlen := numL_le7 (n := n.toNat) (by omega)
  refine FunH.introD Tryd.func59 rfl (by kernel_rfl) 31 rfl rfl _ rfl _ rfl fun C hC hG => ?_
  refine .seq ?_
  refine .region rfl ?_
  refine .p (.assign .raw (.p (.assign (.i rfl) ?_)))
  refine .nil ?_
  refine .seq ?_
  refine .seq ?_
  refine .region rfl ?_
  refine .p (.move (.t rfl) (.p (.lss (.t rfl) (.i rfl) (.p (.move (.t rfl) ?_)))))
  refine .go 9 rfl (.t rfl) (fun hg10 => .move (.t rfl) rfl) ?_
  refine .go 9 rfl (.t rfl) (fun hg11 => .gtr (.o rfl (beq_iff_eq.2 hg11)) (.i rfl) rfl) ?_
  refine .p (.pickOr (.t rfl) (fun hp => (.o rfl (beq_iff_eq.2 hp))) ?_)
  refine .nil ?_
  refine .cond (.t rfl) (fun hc12 => (by exfalso; have hbad := numBad_false h0 h1; unfold numBad at hbad; rw [hbad] at hc12; cases hc12)) (fun hc12 => ?_)
  refine .skip ?_
  refine .seq ?_
  refine .region rfl ?_
  refine .p (.move (.t rfl) (.h (.call0 hG (sliceClone_own _ (by first | omega | (simp; done) | (simp; omega) | (simp at *; omega))) (.cons (.t rfl) .nil) fun r14 Hs14 hr14 => ?_)))
  obtain ⟨u14, rfl, rfl⟩ := hr14
  show wpB _ _ _ _ _ _ _ ((true, _) :: _)
  refine .p (.assign (.t rfl) ?_)
  refine .nil ?_
  refine .seq ?_
  refine .block ?_
  refine .loopR (α := Nat × Value × List UInt8) [] (fun x R => (1, .v (x.1 : Int)) :: (6, .raw x.2.1) :: R) (fun x => [(true, .own 5 x.2.1 x.2.2)]) (fun x => x.2.2 ++ numL x.1 = b ++ numL n.toNat) (fun x => x.1) ((n.toNat, u14, b)) (.nil _) ?_ (.cons (congrArg (fun q => some (AV.v q)) (by dsimp only; omega)) (.cons rfl (.nil _))) (rfl) fun x hF => ?_
  · rfl
  obtain ⟨k, w, l⟩ := x
  dsimp only at hF ⊢
  have hl9 := congrArg List.length hF
  rw [List.length_append, List.length_append] at hl9
  have hk9 := numL_pos k
  refine .seq ?_
  refine .seq ?_
  refine .region rfl ?_
  refine .p (.move (.t rfl) (.p (.geq (.t rfl) (.i rfl) ?_)))
  refine .nil ?_
  refine .condP (.t rfl) (fun hc16 => ?_) (fun hc16 => ?_)
  · refine .skip ?_
    refine .seq ?_
    refine .block ?_
    have hb6 := and127 k; have hc6 : k % 128 < 128 := Nat.mod_lt _ (by decide)
    refine .region rfl ?_
    refine .p (.move (.t rfl) (.p (.move (.t rfl) (.p (.andI (.t rfl) (.i rfl) (by first | omega | (simp; done) | (simp; omega) | (simp at *; omega)) (by first | omega | (simp; done) | (simp; omega) | (simp at *; omega)) (.p (.orI (.t rfl) (.i rfl) (by first | omega | (simp; done) | (simp; omega) | (simp at *; omega)) (by first | omega | (simp; done) | (simp; omega) | (simp at *; omega)) (.p (.conv8 Tryd.underlying3 Tryd.underlying5 (.t rfl) (.h (.buildSlice (α := UInt8) ty5 Tryd.underlying25 (.cons (.t rfl) .nil) rfl (by decide) fun b24 => ?_)))))))))))
    refine .h (.append st25 (.inl ⟨_, Tryd.underlying25⟩) rfl (.s .z) (.own rfl .z) (by first | omega | (simp; done) | (simp; omega) | (simp at *; omega)) (by first | omega | (simp; done) | (simp; omega) | (simp at *; omega)) (fun w25 => .p (.assign (.t rfl) ?_)) rfl)
    refine .drop ?_
    refine .nil ?_
    refine .region rfl ?_
    refine .p (.move (.t rfl) (.p (.shrIu (.t rfl) (.u64 7 rfl) (by decide) (.p (.assign (.t rfl) ?_)))))
    refine .nil ?_
    refine ⟨(k / 128, w25, _), .cons (congrArg (fun q => some (AV.v q)) (shr7 k)) (.cons rfl (.nil _)), rfl, ?_, by dsimp only; omega⟩
    dsimp only; rw [← hF, numL_ge (n := k) (by omega), List.append_assoc]; show l ++ ([UInt8.ofInt (((k &&& 127) ||| 128 : Nat) : Int)] ++ numL (k / 128)) = _; rw [and127, or128 (Nat.mod_lt _ (by decide)), ofInt8_nat]; rfl
  · refine .exit ?_
    refine .seq ?_
    refine .region rfl ?_
    refine .p (.move (.t rfl) (.p (.move (.t rfl) (.p (.conv8 Tryd.underlying3 Tryd.underlying5 (.t rfl) (.h (.buildSlice (α := UInt8) ty5 Tryd.underlying25 (.cons (.t rfl) .nil) rfl (by decide) fun b29 => .h (.append st25 (.inl ⟨_, Tryd.underlying25⟩) rfl (.s .z) (.own rfl .z) (by first | omega | (simp; done) | (simp; omega) | (simp at *; omega)) (by first | omega | (simp; done) | (simp; omega) | (simp at *; omega)) (fun w30 => .p (.assign (.t rfl) ?_)) rfl))))))))
    refine .p (.assign (.i rfl) ?_)
    refine .nil ?_
    refine .ret ?_
    refine ⟨_, .r2 rfl (.tmp rfl) (.tmp rfl), ?_⟩
    exact ⟨1, _, rfl, by rw [← hF, numL_lt (n := k) (by omega), ← ofInt8_nat]; rfl⟩
theorem field_own (b x : List UInt8) (hb : b.length ≤ 800000) (hx : x.length ≤ 1024) : FunH gl Tryd.prog 60 [.v b, .v x] [] (fun r Hs => ∃ u, r = .t2 (.raw u) (.v (0 : Int)) ∧ Hs = [.own 5 u (b ++ numL x.length ++ x)]) := by
  have hlen := numL_le7 (n := x.length) (by omega)
  refine FunH.introS Tryd.func60 rfl (by kernel_rfl) 22 rfl rfl _ rfl _ rfl fun C hC hG => ?_
  refine .seq ?_
  refine .region rfl ?_
  refine .p (.assign (.nilS (α := UInt8)) (.p (.assign (.i rfl) ?_)))
  refine .nil ?_
  refine .seq ?_
  refine .seq ?_
  refine .region rfl ?_
  refine .p (.move (.t rfl) (.p (.len Tryd.underlying25 (.t rfl) (.p (.gtr (.t rfl) (.i rfl) ?_)))))
  refine .nil ?_
  refine .condP (.t rfl) (fun hc10 => (by exfalso; omega)) (fun hc10 => ?_)
  refine .skip ?_
  refine .seq ?_
  refine .region rfl ?_
  refine .p (.move (.t rfl) (.p (.move (.t rfl) (.p (.len Tryd.underlying25 (.t rfl) (.h (.call0 hG (vrApp_own _ _ (by first | omega | (simp; done) | (simp; omega) | (simp at *; omega)) (by first | omega | (simp; done) | (simp; omega) | (simp at *; omega)) (by first | omega | (simp; done) | (simp; omega) | (simp at *; omega))) (.cons (.t rfl) (.cons (.t rfl) .nil)) fun r15 Hs15 hr15 => ?_)))))))
  obtain ⟨u15, rfl, rfl⟩ := hr15
  show wpB _ _ _ _ _ _ _ ((true, _) :: _)
  refine .p (.move (.t rfl) (.p (.ext2_0 (.t rfl) (.p (.ext2_1 (.t rfl) (.p (.assign (.t rfl) (.p (.assign (.t rfl) ?_)))))))))
  refine .nil ?_
  refine .seq ?_
  refine .region rfl ?_
  refine .p (.move (.t rfl) (.p (.move (.t rfl) (.h (.append st25 (.inl ⟨_, Tryd.underlying25⟩) rfl .z (.v (.t rfl)) (by first | omega | (simp; done) | (simp; omega) | (simp at *; omega)) (by first | omega | (simp; done) | (simp; omega) | (simp at *; omega)) (fun w20 => .p (.move (.t rfl) (.p (.assign (.t rfl) (.p (.assign (.t rfl) ?_)))))) rfl)))))
  refine .nil ?_
  refine .ret ?_
  refine ⟨_, .r2 rfl (.tmp rfl) (.tmp rfl), ?_⟩
  refine ⟨_, .cons .z (.nil), ?_⟩
  exact ⟨_, rfl, rfl⟩
theorem field_c (b x : List UInt8) (hb : b.length ≤ 800000) (hx : x.length ≤ 1024) : FunA gl Tryd.prog 60 [.v b, .v x] (fun r => r = .t2 (.v (b ++ numL x.length ++ x)) (.v (0 : Int))) := (field_own b x hb hx).frzT
theorem rField_own (x : List UInt8) (hx : x.length ≤ 1000000) : FunH gl Tryd.prog 73 [.v x] [] (fun r Hs => ∃ u, r = .raw u ∧ Hs = [.own 5 u (numL x.length ++ x)]) := by
  have hlen := numL_le7 (n := x.length) (by omega)
  refine FunH.introS Tryd.func73 rfl (by kernel_rfl) 8 rfl rfl _ rfl _ rfl fun C hC hG => ?_
  refine .seq ?_
  refine .region rfl ?_
  refine .p (.assign (.nilS (α := UInt8)) ?_)
  refine .nil ?_
  refine .seq ?_
  refine .region rfl ?_
  refine .p (.move (.t rfl) (.p (.len Tryd.underlying25 (.t rfl) (.h (.call0 hG (rNumber_own _ (by first | omega | (simp; done) | (simp; omega) | (simp at *; omega)) (by first | omega | (simp; done) | (simp; omega) | (simp at *; omega))) (.cons (.t rfl) .nil) fun r5 Hs5 hr5 => ?_)))))
  obtain ⟨u5, rfl, rfl⟩ := hr5
  show wpB _ _ _ _ _ _ _ ((true, _) :: _)
  refine .p (.move (.t rfl) (.h (.append st25 (.inl ⟨_, Tryd.underlying25⟩) rfl .z (.v (.t rfl)) (by first | omega | (simp; done) | (simp; omega) | (simp at *; omega)) (by first | omega | (simp; done) | (simp; omega) | (simp at *; omega)) (fun w7 => .p (.assign (.t rfl) ?_)) rfl)))
  refine .nil ?_
  refine .ret ?_
  refine ⟨_, .r1 rfl (.tmp rfl), ?_⟩
  refine ⟨_, .cons .z (.nil), ?_⟩
  exact ⟨_, rfl, rfl⟩
theorem rField_c (x : List UInt8) (hx : x.length ≤ 1000000) : FunA gl Tryd.prog 73 [.v x] (fun r => r = .v (numL x.length ++ x)) := (rField_own x hx).frzA
end Go.Proofs.YtkjpkdpnlioffaaDoor
set_option maxRecDepth 1000000
set_option linter.unusedVariables false
set_option linter.unusedSimpArgs false
namespace Go.Proofs.YtkjpkdpnlioffaaDoor
open Go.Fl Go.Ab Go.Mac Go.Sha
theorem algLook_c (a : Alg) (k : Tag) (m : List UInt8) : FunA gl Tryd.prog 34 [.v a, .v k, .v m] (fun r => r = .t2 (.v (algLook a k m).1) (.v (algLook a k m).2)) := by
  refine FunA.intro Tryd.func34 rfl (by kernel_rfl) 32 rfl rfl _ rfl fun C hC hG => ?_
  refine .seq ?_
  refine .region rfl ?_
  refine .h (.box (.t rfl) fun b3 => .h (.box (.t rfl) fun b4 => .h (.alloc ty24 fun b6 => .p (.assign .b ?_))))
  refine .nil ?_
  refine .seq ?_
  refine .seq ?_
  refine .frzOb hC (.s .z) ?_
  refine .asP 4 rfl (.s .z) ?_
  refine .frzOb hC (.s (.s .z)) ?_
  refine .asP 3 rfl (.s (.s .z)) ?_
  refine .region rfl ?_
  refine .p (.fldPF G_api_Algebra.l0 (fun x => x.Free) fd33_0 rfl (fun _ => rfl) (.t rfl) (.p (.ldP ty4 (.t rfl) ?_)))
  refine .nil ?_
  refine .cond (.t rfl) (fun hc10 => ?_) (fun hc10 => ?_)
  · refine .seq ?_
    refine .region rfl ?_
    refine .p (.fldPF G_api_Algebra.l3 (fun x => x.Macs) fd33_3 rfl (fun _ => rfl) (.t rfl) (.p (.ldP ty30 (.t rfl) (.p (.ldP ty24 (.t rfl) (.p (.move (.t rfl) (.p (.call1 hG (find_c _ _ _) (.cons (.t rfl) (.cons (.t rfl) (.cons (.t rfl) .nil))) (.p (.assign (.t rfl) ?_)))))))))))
    refine .nil ?_
    refine .seq ?_
    refine .seq ?_
    refine .region rfl ?_
    refine .p (.move (.t rfl) (.p (.lss (.t rfl) (.i rfl) ?_)))
    refine .nil ?_
    refine .condP (.t rfl) (fun hc17 => ?_) (fun hc17 => ?_)
    · refine .seq ?_
      refine .region rfl ?_
      refine .p (.buildA (default : (Arr 32 UInt8)) ty24 ar24 .nil rfl (.n (.stW ty24 (.t rfl) (.t rfl) .z (.p (.assign .b ?_)))))
      refine .nil ?_
      refine .ret ?_
      refine ⟨_, .r2 rfl (.cell ty24 rfl .z) (.tmp rfl), ?_⟩
      have e : algLook a k m = (default, false) := by unfold algLook algEntry algFind; rw [if_pos hc10, idx_neg (by omega)]
      rw [e]
    · refine .skip ?_
      refine .seq ?_
      have hi7 : 0 ≤ idx a.Macs (macEq k m) := by simp at hc17; omega
      have hl7 := idx_lt hi7
      refine .region rfl ?_
      refine .p (.fldPF G_api_Algebra.l3 (fun x => x.Macs) fd33_3 rfl (fun _ => rfl) (.t rfl) (.p (.ldP ty30 (.t rfl) (.p (.move (.t rfl) (.p (.idx ty62 Tryd.underlying30 (.t rfl) (.t rfl) (by first | omega | (simp; done) | (simp; omega) | (simp at *; omega)) (by first | omega | (simp; done) | (simp; omega) | (simp at *; omega)) (.p (.fldPF G_api_Mac.l2 (fun x => x.Tag) fd62_2 rfl (fun _ => rfl) (.t rfl) (.p (.ldP ty24 (.t rfl) ?_)))))))))))
      refine .n (.stW ty24 (.t rfl) (.t rfl) .z (.p (.assign .b ?_)))
      refine .nil ?_
      refine .ret ?_
      refine ⟨_, .r2 rfl (.cell ty24 rfl .z) (.tmp rfl), ?_⟩
      have e : algLook a k m = (a.Macs[(idx a.Macs (macEq k m)).toNat].Tag, true) := by unfold algLook algEntry algFind; rw [if_pos hc10, idx_get hi7 (by omega)]
      rw [e]
  · refine .skip ?_
    refine .seq ?_
    refine .seq ?_
    refine .region rfl ?_
    refine .p (.move (.t rfl) (.p (.len Tryd.underlying25 (.t rfl) (.p (.gtr (.t rfl) (.i rfl) ?_)))))
    refine .nil ?_
    refine .condP (.t rfl) (fun hc27 => ?_) (fun hc27 => ?_)
    · refine .seq ?_
      refine .region rfl ?_
      refine .p (.buildA (default : (Arr 32 UInt8)) ty24 ar24 .nil rfl (.n (.stW ty24 (.t rfl) (.t rfl) .z (.p (.assign .b ?_)))))
      refine .nil ?_
      refine .ret ?_
      refine ⟨_, .r2 rfl (.cell ty24 rfl .z) (.tmp rfl), ?_⟩
      have e : algLook a k m = (default, false) := by unfold algLook; rw [if_neg (by rw [show a.Free = false from hc10]; decide), if_pos (by omega)]
      rw [e]
    · refine .skip ?_
      refine .seq ?_
      refine .region rfl ?_
      refine .p (.slArrP (by decide) ar24 (.t rfl) (.p (.move (.t rfl) (.p (.call1 hG (hmacOf_c _ _ (by first | omega | (simp; done) | (simp; omega) | (simp at *; omega)) (by first | omega | (simp; done) | (simp; omega) | (simp at *; omega))) (.cons (.t rfl) (.cons (.t rfl) .nil)) (.n (.stW ty24 (.t rfl) (.t rfl) .z (.p (.assign .b ?_)))))))))
      refine .nil ?_
      refine .ret ?_
      refine ⟨_, .r2 rfl (.cell ty24 rfl .z) (.tmp rfl), ?_⟩
      have e : algLook a k m = (hmac k.l m, true) := by unfold algLook; rw [if_neg (by rw [show a.Free = false from hc10]; decide), if_neg (by omega)]
      rw [e]
end Go.Proofs.YtkjpkdpnlioffaaDoor
set_option maxRecDepth 1000000
set_option linter.unusedVariables false
set_option linter.unusedSimpArgs false
namespace Go.Proofs.YtkjpkdpnlioffaaDoor
open Go.Fl Go.Ab Go.Mac Go.Sha
def joinRen : Go.Shelf.Ren where
  f n := if n = 14 then 62 else 75
  t n := match n with | 0 => 0 | 3 => 3 | 4 => 4 | 5 => 5 | 9 => 9 | 20 => 20 | 22 => 25 | 26 => 103 | _ => 0
  g n := n
set_option maxRecDepth 100000 in
theorem joinL : SlLaysJ.n14 Tryd.prog joinRen where
  mixed := by kernel_rfl
  f14 := by kernel_rfl
  f15 := by kernel_rfl
  t0 := by kernel_rfl
  a0 := lay_a Tryd.underlying0 rfl
  z0 := lay_z (by kernel_rfl)
  v0 := lay_v (by kernel_rfl)
  t3 := by kernel_rfl
  a3 := lay_a Tryd.underlying3 rfl
  z3 := lay_z (by kernel_rfl)
  v3 := lay_v (by kernel_rfl)
  t4 := by kernel_rfl
  a4 := lay_a Tryd.underlying4 rfl
  z4 := lay_z (by kernel_rfl)
  v4 := lay_v (by kernel_rfl)
  t9 := by kernel_rfl
  a9 := lay_a Tryd.underlying9 rfl
  z9 := lay_z (by kernel_rfl)
  v9 := lay_v (by kernel_rfl)
  t20 := by kernel_rfl
  a20 := lay_a Tryd.underlying20 rfl
  z20 := lay_z (by kernel_rfl)
  v20 := lay_v (by kernel_rfl)
  t22 := by kernel_rfl
  a22 := lay_a Tryd.underlying25 rfl
  z22 := lay_z (by kernel_rfl)
  v22 := lay_v (by kernel_rfl)
  t26 := by kernel_rfl
  a26 := lay_a Tryd.underlying103 rfl
  z26 := lay_z (by kernel_rfl)
  v26 := lay_v (by kernel_rfl)
  t5 := by kernel_rfl
  z5 := lay_z (by kernel_rfl)
  i5 := by kernel_rfl
theorem Join_c (ls : List (List UInt8)) (h2 : 2 ≤ ls.length) (hn : ls.length ≤ 1000000) (hl : Lib.lens ls ≤ 1000000000) : FunA gl Tryd.prog 62 [.v ls, .v ([] : List UInt8)] (fun r => r = .v ls.flatten) :=
  joinNil_c joinL ⟨_, Tryd.func62, by kernel_rfl, rfl⟩ ls h2 (by omega) (by omega)
theorem chainMsg_c (s : Str) (b : List UInt8) (hs : s.l.length ≤ 1000) (hb : b.length ≤ 1000000) : FunA gl Tryd.prog 61 [.v s, .v b] (fun r => r = .v (s.l ++ b)) := by
  refine FunA.intro Tryd.func61 rfl (by kernel_rfl) 9 rfl rfl _ rfl fun C hC hG => ?_
  refine .seq ?_
  refine .region rfl ?_
  refine .p (.assign (.nilS (α := UInt8)) ?_)
  refine .nil ?_
  refine .seq ?_
  refine .region rfl ?_
  refine .p (.move (.t rfl) (.h (.strBytes Tryd.underlying9 Tryd.underlying25 Tryd.underlying5 (.t rfl) fun w6 => .p (.move (.t rfl) (.h (.append st25 (.inl ⟨_, Tryd.underlying25⟩) rfl .z (.v (.t rfl)) (by first | omega | (simp; done) | (simp; omega) | (simp at *; omega)) (by first | omega | (simp; done) | (simp; omega) | (simp at *; omega)) (fun w8 => .p (.assign (.t rfl) ?_)) rfl))))))
  refine .nil ?_
  refine .frzOwn hC .z ?_
  refine .as 4 rfl .z ?_
  refine .ret ?_
  refine ⟨_, .r1 rfl (.tmp rfl), ?_⟩
  rfl
abbrev Item := G_api_Item
def itemErr (x : Item) : Int :=
  if x.Kind < 1 ∨ 3 < x.Kind then 6
  else if (x.Kind ≠ 1 ∧ 0 < x.Box.length) ∨ (x.Kind = 3 ∧ x.Number ≠ 0) ∨ (x.Kind ≠ 3 ∧ x.Node ≠ default) then 9
  else if x.Place < 1 ∨ 4096 < x.Place ∨ (x.Kind ≠ 3 ∧ (x.Number < 1 ∨ 1000 < x.Number)) then 1
  else if x.Kind = 1 ∧ (x.Box.length < 1 ∨ 1024 < x.Box.length) then 2 else 0
def itemStr : Str := ⟨[105, 116, 101, 109]⟩
def itemBytes (x : Item) : List UInt8 := itemStr.l ++ (numL x.Place.toNat ++ numL x.Kind.toNat ++ numL x.Number.toNat ++ x.Node.l ++ (numL x.Box.length ++ x.Box))
def itemMsg (x : Item) : List UInt8 × Int := if itemErr x ≠ 0 then ([], itemErr x) else (itemBytes x, 0)
structure ItemOk (x : Item) : Prop where
  kind : 1 ≤ x.Kind ∧ x.Kind ≤ 3
  place : 1 ≤ x.Place ∧ x.Place ≤ 4096
  num : 0 ≤ x.Number ∧ x.Number ≤ 1000
  box : x.Box.length ≤ 1024
theorem itemOk {x : Item} (h : itemErr x = 0) : ItemOk x := by
  unfold itemErr at h
  split at h
  · cases h
  · split at h
    · cases h
    · split at h
      · cases h
      · split at h
        · cases h
        · next h1 h2 h3 h4 => exact ⟨by omega, by omega, by omega, by omega⟩
theorem itemBytes_len {x : Item} (h : ItemOk x) : (itemBytes x).length ≤ 1096 := by
  have h1 := numL_le7 (n := x.Place.toNat) (by have := h.place; omega)
  have h2 := numL_le7 (n := x.Kind.toNat) (by have := h.kind; omega)
  have h3 := numL_le7 (n := x.Number.toNat) (by have := h.num; omega)
  have h4 := numL_le7 (n := x.Box.length) (by have := h.box; omega)
  have := h.box
  simp [itemBytes, itemStr, Arr.len]; omega
theorem epochs_c (n : Int) : FunA gl Tryd.prog 25 [.v n] (fun r => r = .v (decide (1 ≤ n) && decide (n ≤ 1000))) := by
  refine FunA.intro Tryd.func25 rfl (by kernel_rfl) 9 rfl rfl _ rfl fun C hC hG => ?_
  refine .seq ?_
  refine .region rfl ?_
  refine .p (.assign .b ?_)
  refine .nil ?_
  refine .seq ?_
  refine .region rfl ?_
  refine .p (.move (.t rfl) (.p (.geq (.t rfl) (.i rfl) (.p (.move (.t rfl) ?_)))))
  refine .go 5 rfl (.t rfl) (fun hg6 => .move (.t rfl) rfl) ?_
  refine .go 5 rfl (.t rfl) (fun hg7 => .leq (.o rfl (beq_iff_eq.2 hg7)) (.i rfl) rfl) ?_
  refine .p (.pickAnd (.t rfl) (fun hp => (.o rfl (beq_iff_eq.2 hp))) (.p (.assign (.t rfl) ?_)))
  refine .nil ?_
  refine .ret ?_
  refine ⟨_, .r1 rfl (.tmp rfl), ?_⟩
  rfl
theorem places_c (n : Int) : FunA gl Tryd.prog 24 [.v n] (fun r => r = .v (decide (1 ≤ n) && decide (n ≤ 4096))) := by
  refine FunA.intro Tryd.func24 rfl (by kernel_rfl) 9 rfl rfl _ rfl fun C hC hG => ?_
  refine .seq ?_
  refine .region rfl ?_
  refine .p (.assign .b ?_)
  refine .nil ?_
  refine .seq ?_
  refine .region rfl ?_
  refine .p (.move (.t rfl) (.p (.geq (.t rfl) (.i rfl) (.p (.move (.t rfl) ?_)))))
  refine .go 5 rfl (.t rfl) (fun hg6 => .move (.t rfl) rfl) ?_
  refine .go 5 rfl (.t rfl) (fun hg7 => .leq (.o rfl (beq_iff_eq.2 hg7)) (.i rfl) rfl) ?_
  refine .p (.pickAnd (.t rfl) (fun hp => (.o rfl (beq_iff_eq.2 hp))) (.p (.assign (.t rfl) ?_)))
  refine .nil ?_
  refine .ret ?_
  refine ⟨_, .r1 rfl (.tmp rfl), ?_⟩
  rfl
theorem itemCheck_c (x : Item) : FunA gl Tryd.prog 58 [.v x] (fun r => r = .v (itemErr x)) := by
  refine FunA.intro Tryd.func58 rfl (by kernel_rfl) 79 rfl rfl _ rfl fun C hC hG => ?_
  refine .seq ?_
  refine .region rfl ?_
  refine .h (.box (.t rfl) fun b1 => .p (.assign (.i rfl) ?_))
  refine .nil ?_
  refine .seq ?_
  refine .draw (by kernel_rfl) 8 [[], [(6, 0)], [(7, 1)], [], [(9, 3)], [(10, 4)], [(8, 2)], [(11, 5)]] rfl (by kernel_rfl) rfl ?_
  refine ⟨_, OpP.fldW G_api_Item.l1 fd27_1 rfl (.t rfl) rfl, ?_⟩
  refine ⟨_, OpP.ldF (fun x => x.Kind) ty3 (.t rfl) .z (fun _ => rfl) rfl, ?_⟩
  refine ⟨_, OpP.eqlI (.t rfl) (.i rfl) rfl, ?_⟩
  refine ⟨_, OpP.fldW G_api_Item.l1 fd27_1 rfl (.t rfl) rfl, ?_⟩
  refine ⟨_, OpP.ldF (fun x => x.Kind) ty3 (.t rfl) .z (fun _ => rfl) rfl, ?_⟩
  refine ⟨_, OpP.eqlI (.t rfl) (.i rfl) rfl, ?_⟩
  refine ⟨_, OpP.assign (.t rfl) rfl, ?_⟩
  refine ⟨_, OpP.assign (.t rfl) rfl, ?_⟩
  show wpB _ _ _ _ _ _ ((4, _) :: (3, _) :: (11, _) :: (10, _) :: (9, _) :: (8, _) :: (7, _) :: (6, _) :: _) _
  refine .nil ?_
  refine .seq ?_
  refine .region rfl ?_
  refine .p (.move (.t rfl) (.p (.move (.t rfl) ?_)))
  refine .go 13 rfl (.t rfl) (fun hg14 => .move (.t rfl) rfl) ?_
  refine .p (.pickOr (.t rfl) (fun hp => (.o rfl (beq_iff_eq.2 hp))) (.p (.assign (.t rfl) ?_)))
  refine .nil ?_
  refine .seq ?_
  refine .block ?_
  refine .seq ?_
  refine .region rfl ?_
  refine .p (.move (.t rfl) (.p (.not (.t rfl) (.p (.move (.t rfl) ?_)))))
  refine .go 19 rfl (.t rfl) (fun hg20 => .fldW G_api_Item.l1 fd27_1 rfl (.t rfl) rfl) ?_
  refine .go 19 rfl (.t rfl) (fun hg21 => .ldF (fun x => x.Kind) ty3 (.o rfl (beq_iff_eq.2 hg21)) .z (fun _ => rfl) rfl) ?_
  refine .go 19 rfl (.t rfl) (fun hg22 => .neqI (.o rfl (beq_iff_eq.2 hg22)) (.i rfl) rfl) ?_
  refine .p (.pickAnd (.t rfl) (fun hp => (.o rfl (beq_iff_eq.2 hp))) (.p (.assign (.t rfl) ?_)))
  refine .nil ?_
  refine .cond (.t rfl) (fun hc16 => ?_) (fun hc16 => ?_)
  · refine .seq ?_
    refine .region rfl ?_
    refine .p (.assign (.i rfl) ?_)
    refine .nil ?_
    refine .ret ?_
    refine ⟨_, .r1 rfl (.tmp rfl), ?_⟩
    refine congrArg AV.v ?_
    simp only [Bool.and_eq_true, Bool.or_eq_true, Bool.not_eq_true', Bool.not_eq_false', Bool.and_eq_false_iff, Bool.or_eq_false_iff, decide_eq_true_eq, decide_eq_false_iff_not, ne_eq, Decidable.not_not] at *
    unfold itemErr
    by_cases hn : x.Node = default <;> simp only [hn, ne_eq, not_true, not_false_eq_true, and_true, and_false, or_false, false_or, true_and, or_true, true_or] at * <;> (repeat' split) <;> omega
  · refine .seq ?_
    refine .region rfl ?_
    refine .p (.move (.t rfl) (.p (.not (.t rfl) (.p (.move (.t rfl) ?_)))))
    refine .go 27 rfl (.t rfl) (fun hg28 => .fldW G_api_Item.l2 fd27_2 rfl (.t rfl) rfl) ?_
    refine .go 27 rfl (.t rfl) (fun hg29 => .ldF (fun x => x.Number) ty3 (.o rfl (beq_iff_eq.2 hg29)) .z (fun _ => rfl) rfl) ?_
    refine .go 27 rfl (.t rfl) (fun hg30 => .neqI (.o rfl (beq_iff_eq.2 hg30)) (.i rfl) rfl) ?_
    refine .p (.pickAnd (.t rfl) (fun hp => (.o rfl (beq_iff_eq.2 hp))) (.p (.move (.t rfl) ?_)))
    refine .go 32 rfl (.t rfl) (fun hg33 => .move (.t rfl) rfl) ?_
    refine .goU 32 rfl (.t rfl) (fun hg34 => .move (.o rfl (beq_iff_eq.2 hg34)) rfl) ?_
    refine .gn 34 rfl rfl (fun hc35 hg35 => .fldW G_api_Item.l3 fd27_3 rfl (.t rfl) rfl) ?_
    refine .gn 34 rfl rfl (fun hc36 hg36 => .ldF (fun x => x.Node) ty24 (.ou rfl (Bool.and_eq_true_iff.2 ⟨hc36, beq_iff_eq.2 hg36⟩)) .z (fun _ => rfl) rfl) ?_
    refine .gn 34 rfl rfl (fun hc37 hg37 => .buildA (default : (Arr 32 UInt8)) ty24 ar24 .nil rfl rfl) ?_
    refine .gn 34 rfl rfl (fun hc38 hg38 => .neqA8 Tryd.underlying24 sz5 Tryd.underlying5 gd24 (.ou rfl (Bool.and_eq_true_iff.2 ⟨hc38, beq_iff_eq.2 hg38⟩)) (.ou rfl (Bool.and_eq_true_iff.2 ⟨hc38, beq_iff_eq.2 hg38⟩)) rfl) ?_
    refine .go 32 rfl (.t rfl) (fun hg39 => .pickAnd (.ou rfl (beq_iff_eq.2 hg39)) (fun hp => (.ou rfl (Bool.and_eq_true_iff.2 ⟨(beq_iff_eq.2 hg39), beq_iff_eq.2 hp⟩))) rfl) ?_
    refine .p (.pickOr (.t rfl) (fun hp => (.o rfl (beq_iff_eq.2 hp))) (.p (.move (.t rfl) ?_)))
    refine .go 41 rfl (.t rfl) (fun hg42 => .move (.t rfl) rfl) ?_
    refine .go 41 rfl (.t rfl) (fun hg43 => .not (.o rfl (beq_iff_eq.2 hg43)) rfl) ?_
    refine .goU 41 rfl (.t rfl) (fun hg44 => .move (.o rfl (beq_iff_eq.2 hg44)) rfl) ?_
    refine .gn 44 rfl rfl (fun hc45 hg45 => .fldW G_api_Item.l4 fd27_4 rfl (.t rfl) rfl) ?_
    refine .gn 44 rfl rfl (fun hc46 hg46 => .ldF (fun x => x.Box) ty25 (.ou rfl (Bool.and_eq_true_iff.2 ⟨hc46, beq_iff_eq.2 hg46⟩)) .z (fun _ => rfl) rfl) ?_
    refine .gn 44 rfl rfl (fun hc47 hg47 => .len Tryd.underlying25 (.ou rfl (Bool.and_eq_true_iff.2 ⟨hc47, beq_iff_eq.2 hg47⟩)) rfl) ?_
    refine .gn 44 rfl rfl (fun hc48 hg48 => .gtr (.ou rfl (Bool.and_eq_true_iff.2 ⟨hc48, beq_iff_eq.2 hg48⟩)) (.i rfl) rfl) ?_
    refine .go 41 rfl (.t rfl) (fun hg49 => .pickAnd (.ou rfl (beq_iff_eq.2 hg49)) (fun hp => (.ou rfl (Bool.and_eq_true_iff.2 ⟨(beq_iff_eq.2 hg49), beq_iff_eq.2 hp⟩))) rfl) ?_
    refine .p (.pickOr (.t rfl) (fun hp => (.o rfl (beq_iff_eq.2 hp))) (.p (.assign (.t rfl) ?_)))
    refine .nil ?_
    refine .cond (.t rfl) (fun hc24 => ?_) (fun hc24 => ?_)
    · refine .seq ?_
      refine .region rfl ?_
      refine .p (.assign (.i rfl) ?_)
      refine .nil ?_
      refine .ret ?_
      refine ⟨_, .r1 rfl (.tmp rfl), ?_⟩
      refine congrArg AV.v ?_
      simp only [Bool.and_eq_true, Bool.or_eq_true, Bool.not_eq_true', Bool.not_eq_false', Bool.and_eq_false_iff, Bool.or_eq_false_iff, decide_eq_true_eq, decide_eq_false_iff_not, ne_eq, Decidable.not_not] at *
      unfold itemErr
      by_cases hn : x.Node = default <;> simp only [hn, ne_eq, not_true, not_false_eq_true, and_true, and_false, or_false, false_or, true_and, or_true, true_or] at * <;> (repeat' split) <;> omega
    · refine .seq ?_
      refine .region rfl ?_
      refine .p (.fldW G_api_Item.l0 fd27_0 rfl (.t rfl) (.p (.ldF (fun x => x.Place) ty3 (.t rfl) .z (fun _ => rfl) (.p (.call1 hG (places_c _) (.cons (.t rfl) .nil) (.p (.not (.t rfl) (.p (.move (.t rfl) ?_)))))))))
      refine .go 56 rfl (.t rfl) (fun hg57 => .move (.t rfl) rfl) ?_
      refine .goU 56 rfl (.t rfl) (fun hg58 => .move (.o rfl (beq_iff_eq.2 hg58)) rfl) ?_
      refine .gn 58 rfl rfl (fun hc59 hg59 => .fldW G_api_Item.l2 fd27_2 rfl (.t rfl) rfl) ?_
      refine .gn 58 rfl rfl (fun hc60 hg60 => .ldF (fun x => x.Number) ty3 (.ou rfl (Bool.and_eq_true_iff.2 ⟨hc60, beq_iff_eq.2 hg60⟩)) .z (fun _ => rfl) rfl) ?_
      refine .gn 58 rfl rfl (fun hc61 hg61 => .call1 hG (epochs_c _) (.cons (.ou rfl (Bool.and_eq_true_iff.2 ⟨hc61, beq_iff_eq.2 hg61⟩)) .nil) rfl) ?_
      refine .gn 58 rfl rfl (fun hc62 hg62 => .not (.ou rfl (Bool.and_eq_true_iff.2 ⟨hc62, beq_iff_eq.2 hg62⟩)) rfl) ?_
      refine .go 56 rfl (.t rfl) (fun hg63 => .pickAnd (.ou rfl (beq_iff_eq.2 hg63)) (fun hp => (.ou rfl (Bool.and_eq_true_iff.2 ⟨(beq_iff_eq.2 hg63), beq_iff_eq.2 hp⟩))) rfl) ?_
      refine .p (.pickOr (.t rfl) (fun hp => (.o rfl (beq_iff_eq.2 hp))) (.p (.assign (.t rfl) ?_)))
      refine .nil ?_
      refine .cond (.t rfl) (fun hc51 => ?_) (fun hc51 => ?_)
      · refine .seq ?_
        refine .region rfl ?_
        refine .p (.assign (.i rfl) ?_)
        refine .nil ?_
        refine .ret ?_
        refine ⟨_, .r1 rfl (.tmp rfl), ?_⟩
        refine congrArg AV.v ?_
        simp only [Bool.and_eq_true, Bool.or_eq_true, Bool.not_eq_true', Bool.not_eq_false', Bool.and_eq_false_iff, Bool.or_eq_false_iff, decide_eq_true_eq, decide_eq_false_iff_not, ne_eq, Decidable.not_not] at *
        unfold itemErr
        by_cases hn : x.Node = default <;> simp only [hn, ne_eq, not_true, not_false_eq_true, and_true, and_false, or_false, false_or, true_and, or_true, true_or] at * <;> (repeat' split) <;> omega
      · refine .seq ?_
        refine .region rfl ?_
        refine .p (.move (.t rfl) (.p (.move (.t rfl) ?_)))
        refine .go 67 rfl (.t rfl) (fun hg68 => .fldW G_api_Item.l4 fd27_4 rfl (.t rfl) rfl) ?_
        refine .go 67 rfl (.t rfl) (fun hg69 => .ldF (fun x => x.Box) ty25 (.o rfl (beq_iff_eq.2 hg69)) .z (fun _ => rfl) rfl) ?_
        refine .go 67 rfl (.t rfl) (fun hg70 => .len Tryd.underlying25 (.o rfl (beq_iff_eq.2 hg70)) rfl) ?_
        refine .go 67 rfl (.t rfl) (fun hg71 => .lss (.o rfl (beq_iff_eq.2 hg71)) (.i rfl) rfl) ?_
        refine .goU 67 rfl (.t rfl) (fun hg72 => .move (.o rfl (beq_iff_eq.2 hg72)) rfl) ?_
        refine .gn 72 rfl rfl (fun hc73 hg73 => .fldW G_api_Item.l4 fd27_4 rfl (.t rfl) rfl) ?_
        refine .gn 72 rfl rfl (fun hc74 hg74 => .ldF (fun x => x.Box) ty25 (.ou rfl (Bool.and_eq_true_iff.2 ⟨hc74, beq_iff_eq.2 hg74⟩)) .z (fun _ => rfl) rfl) ?_
        refine .gn 72 rfl rfl (fun hc75 hg75 => .len Tryd.underlying25 (.ou rfl (Bool.and_eq_true_iff.2 ⟨hc75, beq_iff_eq.2 hg75⟩)) rfl) ?_
        refine .gn 72 rfl rfl (fun hc76 hg76 => .gtr (.ou rfl (Bool.and_eq_true_iff.2 ⟨hc76, beq_iff_eq.2 hg76⟩)) (.i rfl) rfl) ?_
        refine .go 67 rfl (.t rfl) (fun hg77 => .pickOr (.ou rfl (beq_iff_eq.2 hg77)) (fun hp => (.ou rfl (Bool.and_eq_true_iff.2 ⟨(beq_iff_eq.2 hg77), beq_iff_eq.2 hp⟩))) rfl) ?_
        refine .p (.pickAnd (.t rfl) (fun hp => (.o rfl (beq_iff_eq.2 hp))) (.p (.assign (.t rfl) ?_)))
        refine .nil ?_
        refine .cond (.t rfl) (fun hc65 => ?_) (fun hc65 => ?_)
        · refine .seq ?_
          refine .region rfl ?_
          refine .p (.assign (.i rfl) ?_)
          refine .nil ?_
          refine .ret ?_
          refine ⟨_, .r1 rfl (.tmp rfl), ?_⟩
          refine congrArg AV.v ?_
          simp only [Bool.and_eq_true, Bool.or_eq_true, Bool.not_eq_true', Bool.not_eq_false', Bool.and_eq_false_iff, Bool.or_eq_false_iff, decide_eq_true_eq, decide_eq_false_iff_not, ne_eq, Decidable.not_not] at *
          unfold itemErr
          by_cases hn : x.Node = default <;> simp only [hn, ne_eq, not_true, not_false_eq_true, and_true, and_false, or_false, false_or, true_and, or_true, true_or] at * <;> (repeat' split) <;> omega
        · refine .skip ?_
          refine .seq ?_
          refine .region rfl ?_
          refine .p (.assign (.i rfl) ?_)
          refine .nil ?_
          refine .ret ?_
          refine ⟨_, .r1 rfl (.tmp rfl), ?_⟩
          refine congrArg AV.v ?_
          simp only [Bool.and_eq_true, Bool.or_eq_true, Bool.not_eq_true', Bool.not_eq_false', Bool.and_eq_false_iff, Bool.or_eq_false_iff, decide_eq_true_eq, decide_eq_false_iff_not, ne_eq, Decidable.not_not] at *
          unfold itemErr
          by_cases hn : x.Node = default <;> simp only [hn, ne_eq, not_true, not_false_eq_true, and_true, and_false, or_false, false_or, true_and, or_true, true_or] at * <;> (repeat' split) <;> omega
theorem itemMsg_of {x : Item} {e : Int} (h : itemErr x = e) (he : e ≠ 0) : itemMsg x = ([], e) := by unfold itemMsg; rw [h, if_pos he]
theorem itemMsg_ok {x : Item} (h : itemErr x = 0) : itemMsg x = (itemBytes x, 0) := by unfold itemMsg; rw [h, if_neg (by decide)]
theorem rItemMsg_c (x : Item) : FunA gl Tryd.prog 55 [.v x] (fun r => r = .t2 (.v (itemMsg x).1) (.v (itemMsg x).2)) := by
  refine FunA.intro Tryd.func55 rfl (by kernel_rfl) 101 rfl rfl _ rfl fun C hC hG => ?_
  refine .seq ?_
  refine .region rfl ?_
  refine .h (.box (.t rfl) fun b1 => .p (.assign (.nilS (α := UInt8)) (.p (.assign (.i rfl) ?_))))
  refine .nil ?_
  refine .seq ?_
  refine .seq ?_
  refine .frzOb hC .z ?_
  refine .asP 1 rfl .z ?_
  refine .region rfl ?_
  refine .p (.fldPF G_api_Item.l1 (fun x => x.Kind) fd27_1 rfl (fun _ => rfl) (.t rfl) (.p (.ldP ty3 (.t rfl) (.p (.lss (.t rfl) (.i rfl) (.p (.move (.t rfl) ?_)))))))
  refine .go 8 rfl (.t rfl) (fun hg9 => .fldPF G_api_Item.l1 (fun x => x.Kind) fd27_1 rfl (fun _ => rfl) (.t rfl) rfl) ?_
  refine .go 8 rfl (.t rfl) (fun hg10 => .ldP ty3 (.o rfl (beq_iff_eq.2 hg10)) rfl) ?_
  refine .go 8 rfl (.t rfl) (fun hg11 => .gtr (.o rfl (beq_iff_eq.2 hg11)) (.i rfl) rfl) ?_
  refine .p (.pickOr (.t rfl) (fun hp => (.o rfl (beq_iff_eq.2 hp))) ?_)
  refine .nil ?_
  refine .cond (.t rfl) (fun hc12 => ?_) (fun hc12 => ?_)
  · refine .seq ?_
    refine .region rfl ?_
    refine .p (.assign (.nilS (α := UInt8)) (.p (.assign (.i rfl) ?_)))
    refine .nil ?_
    refine .ret ?_
    refine ⟨_, .r2 rfl (.tmp rfl) (.tmp rfl), ?_⟩
    rw [itemMsg_of (x := x) (e := 6) (by simp only [Bool.and_eq_true, Bool.or_eq_true, Bool.not_eq_true', Bool.not_eq_false', Bool.and_eq_false_iff, Bool.or_eq_false_iff, decide_eq_true_eq, decide_eq_false_iff_not, ne_eq, Decidable.not_not] at *; unfold itemErr; by_cases hn : x.Node = default <;> simp only [hn, ne_eq, not_true, not_false_eq_true, and_true, and_false, or_false, false_or, true_and, or_true, true_or] at * <;> (repeat' split) <;> omega) (by decide)]
  · refine .skip ?_
    refine .seq ?_
    refine .seq ?_
    refine .region rfl ?_
    refine .p (.fldPF G_api_Item.l1 (fun x => x.Kind) fd27_1 rfl (fun _ => rfl) (.t rfl) (.p (.ldP ty3 (.t rfl) (.p (.neqI (.t rfl) (.i rfl) (.p (.move (.t rfl) ?_)))))))
    refine .go 16 rfl (.t rfl) (fun hg17 => .fldPF G_api_Item.l4 (fun x => x.Box) fd27_4 rfl (fun _ => rfl) (.t rfl) rfl) ?_
    refine .go 16 rfl (.t rfl) (fun hg18 => .ldP ty25 (.o rfl (beq_iff_eq.2 hg18)) rfl) ?_
    refine .go 16 rfl (.t rfl) (fun hg19 => .len Tryd.underlying25 (.o rfl (beq_iff_eq.2 hg19)) rfl) ?_
    refine .go 16 rfl (.t rfl) (fun hg20 => .gtr (.o rfl (beq_iff_eq.2 hg20)) (.i rfl) rfl) ?_
    refine .p (.pickAnd (.t rfl) (fun hp => (.o rfl (beq_iff_eq.2 hp))) (.p (.move (.t rfl) ?_)))
    refine .go 22 rfl (.t rfl) (fun hg23 => .fldPF G_api_Item.l1 (fun x => x.Kind) fd27_1 rfl (fun _ => rfl) (.t rfl) rfl) ?_
    refine .go 22 rfl (.t rfl) (fun hg24 => .ldP ty3 (.o rfl (beq_iff_eq.2 hg24)) rfl) ?_
    refine .go 22 rfl (.t rfl) (fun hg25 => .eqlI (.o rfl (beq_iff_eq.2 hg25)) (.i rfl) rfl) ?_
    refine .goU 22 rfl (.t rfl) (fun hg26 => .move (.o rfl (beq_iff_eq.2 hg26)) rfl) ?_
    refine .gn 26 rfl rfl (fun hc27 hg27 => .fldPF G_api_Item.l2 (fun x => x.Number) fd27_2 rfl (fun _ => rfl) (.t rfl) rfl) ?_
    refine .gn 26 rfl rfl (fun hc28 hg28 => .ldP ty3 (.ou rfl (Bool.and_eq_true_iff.2 ⟨hc28, beq_iff_eq.2 hg28⟩)) rfl) ?_
    refine .gn 26 rfl rfl (fun hc29 hg29 => .neqI (.ou rfl (Bool.and_eq_true_iff.2 ⟨hc29, beq_iff_eq.2 hg29⟩)) (.i rfl) rfl) ?_
    refine .go 22 rfl (.t rfl) (fun hg30 => .pickAnd (.ou rfl (beq_iff_eq.2 hg30)) (fun hp => (.ou rfl (Bool.and_eq_true_iff.2 ⟨(beq_iff_eq.2 hg30), beq_iff_eq.2 hp⟩))) rfl) ?_
    refine .p (.pickOr (.t rfl) (fun hp => (.o rfl (beq_iff_eq.2 hp))) (.p (.move (.t rfl) ?_)))
    refine .go 32 rfl (.t rfl) (fun hg33 => .fldPF G_api_Item.l1 (fun x => x.Kind) fd27_1 rfl (fun _ => rfl) (.t rfl) rfl) ?_
    refine .go 32 rfl (.t rfl) (fun hg34 => .ldP ty3 (.o rfl (beq_iff_eq.2 hg34)) rfl) ?_
    refine .go 32 rfl (.t rfl) (fun hg35 => .neqI (.o rfl (beq_iff_eq.2 hg35)) (.i rfl) rfl) ?_
    refine .goU 32 rfl (.t rfl) (fun hg36 => .move (.o rfl (beq_iff_eq.2 hg36)) rfl) ?_
    refine .gn 36 rfl rfl (fun hc37 hg37 => .fldPF G_api_Item.l3 (fun x => x.Node) fd27_3 rfl (fun _ => rfl) (.t rfl) rfl) ?_
    refine .gn 36 rfl rfl (fun hc38 hg38 => .ldP ty24 (.ou rfl (Bool.and_eq_true_iff.2 ⟨hc38, beq_iff_eq.2 hg38⟩)) rfl) ?_
    refine .gn 36 rfl rfl (fun hc39 hg39 => .buildA (default : (Arr 32 UInt8)) ty24 ar24 .nil rfl rfl) ?_
    refine .gn 36 rfl rfl (fun hc40 hg40 => .neqA8 Tryd.underlying24 sz5 Tryd.underlying5 gd24 (.ou rfl (Bool.and_eq_true_iff.2 ⟨hc40, beq_iff_eq.2 hg40⟩)) (.ou rfl (Bool.and_eq_true_iff.2 ⟨hc40, beq_iff_eq.2 hg40⟩)) rfl) ?_
    refine .go 32 rfl (.t rfl) (fun hg41 => .pickAnd (.ou rfl (beq_iff_eq.2 hg41)) (fun hp => (.ou rfl (Bool.and_eq_true_iff.2 ⟨(beq_iff_eq.2 hg41), beq_iff_eq.2 hp⟩))) rfl) ?_
    refine .p (.pickOr (.t rfl) (fun hp => (.o rfl (beq_iff_eq.2 hp))) ?_)
    refine .nil ?_
    refine .cond (.t rfl) (fun hc42 => ?_) (fun hc42 => ?_)
    · refine .seq ?_
      refine .region rfl ?_
      refine .p (.assign (.nilS (α := UInt8)) (.p (.assign (.i rfl) ?_)))
      refine .nil ?_
      refine .ret ?_
      refine ⟨_, .r2 rfl (.tmp rfl) (.tmp rfl), ?_⟩
      rw [itemMsg_of (x := x) (e := 9) (by simp only [Bool.and_eq_true, Bool.or_eq_true, Bool.not_eq_true', Bool.not_eq_false', Bool.and_eq_false_iff, Bool.or_eq_false_iff, decide_eq_true_eq, decide_eq_false_iff_not, ne_eq, Decidable.not_not] at *; unfold itemErr; by_cases hn : x.Node = default <;> simp only [hn, ne_eq, not_true, not_false_eq_true, and_true, and_false, or_false, false_or, true_and, or_true, true_or] at * <;> (repeat' split) <;> omega) (by decide)]
    · refine .skip ?_
      refine .seq ?_
      refine .seq ?_
      refine .region rfl ?_
      refine .p (.fldPF G_api_Item.l0 (fun x => x.Place) fd27_0 rfl (fun _ => rfl) (.t rfl) (.p (.ldP ty3 (.t rfl) (.p (.lss (.t rfl) (.i rfl) (.p (.move (.t rfl) ?_)))))))
      refine .go 46 rfl (.t rfl) (fun hg47 => .fldPF G_api_Item.l0 (fun x => x.Place) fd27_0 rfl (fun _ => rfl) (.t rfl) rfl) ?_
      refine .go 46 rfl (.t rfl) (fun hg48 => .ldP ty3 (.o rfl (beq_iff_eq.2 hg48)) rfl) ?_
      refine .go 46 rfl (.t rfl) (fun hg49 => .gtr (.o rfl (beq_iff_eq.2 hg49)) (.i rfl) rfl) ?_
      refine .p (.pickOr (.t rfl) (fun hp => (.o rfl (beq_iff_eq.2 hp))) (.p (.move (.t rfl) ?_)))
      refine .go 51 rfl (.t rfl) (fun hg52 => .fldPF G_api_Item.l1 (fun x => x.Kind) fd27_1 rfl (fun _ => rfl) (.t rfl) rfl) ?_
      refine .go 51 rfl (.t rfl) (fun hg53 => .ldP ty3 (.o rfl (beq_iff_eq.2 hg53)) rfl) ?_
      refine .go 51 rfl (.t rfl) (fun hg54 => .neqI (.o rfl (beq_iff_eq.2 hg54)) (.i rfl) rfl) ?_
      refine .goU 51 rfl (.t rfl) (fun hg55 => .move (.o rfl (beq_iff_eq.2 hg55)) rfl) ?_
      refine .gn 55 rfl rfl (fun hc56 hg56 => .fldPF G_api_Item.l2 (fun x => x.Number) fd27_2 rfl (fun _ => rfl) (.t rfl) rfl) ?_
      refine .gn 55 rfl rfl (fun hc57 hg57 => .ldP ty3 (.ou rfl (Bool.and_eq_true_iff.2 ⟨hc57, beq_iff_eq.2 hg57⟩)) rfl) ?_
      refine .gn 55 rfl rfl (fun hc58 hg58 => .lss (.ou rfl (Bool.and_eq_true_iff.2 ⟨hc58, beq_iff_eq.2 hg58⟩)) (.i rfl) rfl) ?_
      refine .gn 55 rfl rfl (fun hc59 hg59 => .move (.ou rfl (Bool.and_eq_true_iff.2 ⟨hc59, beq_iff_eq.2 hg59⟩)) rfl) ?_
      refine .gn 59 rfl rfl (fun hc60 hg60 => .fldPF G_api_Item.l2 (fun x => x.Number) fd27_2 rfl (fun _ => rfl) (.t rfl) rfl) ?_
      refine .gn 59 rfl rfl (fun hc61 hg61 => .ldP ty3 (.ou rfl (Bool.and_eq_true_iff.2 ⟨hc61, beq_iff_eq.2 hg61⟩)) rfl) ?_
      refine .gn 59 rfl rfl (fun hc62 hg62 => .gtr (.ou rfl (Bool.and_eq_true_iff.2 ⟨hc62, beq_iff_eq.2 hg62⟩)) (.i rfl) rfl) ?_
      refine .gn 55 rfl rfl (fun hc63 hg63 => .pickOr (.ou rfl (Bool.and_eq_true_iff.2 ⟨hc63, beq_iff_eq.2 hg63⟩)) (fun hp => (.ou rfl (Bool.and_eq_true_iff.2 ⟨(Bool.and_eq_true_iff.2 ⟨hc63, beq_iff_eq.2 hg63⟩), beq_iff_eq.2 hp⟩))) rfl) ?_
      refine .go 51 rfl (.t rfl) (fun hg64 => .pickAnd (.ou rfl (beq_iff_eq.2 hg64)) (fun hp => (.ou rfl (Bool.and_eq_true_iff.2 ⟨(beq_iff_eq.2 hg64), beq_iff_eq.2 hp⟩))) rfl) ?_
      refine .p (.pickOr (.t rfl) (fun hp => (.o rfl (beq_iff_eq.2 hp))) ?_)
      refine .nil ?_
      refine .cond (.t rfl) (fun hc65 => ?_) (fun hc65 => ?_)
      · refine .seq ?_
        refine .region rfl ?_
        refine .p (.assign (.nilS (α := UInt8)) (.p (.assign (.i rfl) ?_)))
        refine .nil ?_
        refine .ret ?_
        refine ⟨_, .r2 rfl (.tmp rfl) (.tmp rfl), ?_⟩
        rw [itemMsg_of (x := x) (e := 1) (by simp only [Bool.and_eq_true, Bool.or_eq_true, Bool.not_eq_true', Bool.not_eq_false', Bool.and_eq_false_iff, Bool.or_eq_false_iff, decide_eq_true_eq, decide_eq_false_iff_not, ne_eq, Decidable.not_not] at *; unfold itemErr; by_cases hn : x.Node = default <;> simp only [hn, ne_eq, not_true, not_false_eq_true, and_true, and_false, or_false, false_or, true_and, or_true, true_or] at * <;> (repeat' split) <;> omega) (by decide)]
      · refine .skip ?_
        refine .seq ?_
        refine .seq ?_
        refine .region rfl ?_
        refine .p (.fldPF G_api_Item.l1 (fun x => x.Kind) fd27_1 rfl (fun _ => rfl) (.t rfl) (.p (.ldP ty3 (.t rfl) (.p (.eqlI (.t rfl) (.i rfl) (.p (.move (.t rfl) ?_)))))))
        refine .go 69 rfl (.t rfl) (fun hg70 => .fldPF G_api_Item.l4 (fun x => x.Box) fd27_4 rfl (fun _ => rfl) (.t rfl) rfl) ?_
        refine .go 69 rfl (.t rfl) (fun hg71 => .ldP ty25 (.o rfl (beq_iff_eq.2 hg71)) rfl) ?_
        refine .go 69 rfl (.t rfl) (fun hg72 => .len Tryd.underlying25 (.o rfl (beq_iff_eq.2 hg72)) rfl) ?_
        refine .go 69 rfl (.t rfl) (fun hg73 => .lss (.o rfl (beq_iff_eq.2 hg73)) (.i rfl) rfl) ?_
        refine .goU 69 rfl (.t rfl) (fun hg74 => .move (.o rfl (beq_iff_eq.2 hg74)) rfl) ?_
        refine .gn 74 rfl rfl (fun hc75 hg75 => .fldPF G_api_Item.l4 (fun x => x.Box) fd27_4 rfl (fun _ => rfl) (.t rfl) rfl) ?_
        refine .gn 74 rfl rfl (fun hc76 hg76 => .ldP ty25 (.ou rfl (Bool.and_eq_true_iff.2 ⟨hc76, beq_iff_eq.2 hg76⟩)) rfl) ?_
        refine .gn 74 rfl rfl (fun hc77 hg77 => .len Tryd.underlying25 (.ou rfl (Bool.and_eq_true_iff.2 ⟨hc77, beq_iff_eq.2 hg77⟩)) rfl) ?_
        refine .gn 74 rfl rfl (fun hc78 hg78 => .gtr (.ou rfl (Bool.and_eq_true_iff.2 ⟨hc78, beq_iff_eq.2 hg78⟩)) (.i rfl) rfl) ?_
        refine .go 69 rfl (.t rfl) (fun hg79 => .pickOr (.ou rfl (beq_iff_eq.2 hg79)) (fun hp => (.ou rfl (Bool.and_eq_true_iff.2 ⟨(beq_iff_eq.2 hg79), beq_iff_eq.2 hp⟩))) rfl) ?_
        refine .p (.pickAnd (.t rfl) (fun hp => (.o rfl (beq_iff_eq.2 hp))) ?_)
        refine .nil ?_
        refine .cond (.t rfl) (fun hc80 => ?_) (fun hc80 => ?_)
        · refine .seq ?_
          refine .region rfl ?_
          refine .p (.assign (.nilS (α := UInt8)) (.p (.assign (.i rfl) ?_)))
          refine .nil ?_
          refine .ret ?_
          refine ⟨_, .r2 rfl (.tmp rfl) (.tmp rfl), ?_⟩
          rw [itemMsg_of (x := x) (e := 2) (by simp only [Bool.and_eq_true, Bool.or_eq_true, Bool.not_eq_true', Bool.not_eq_false', Bool.and_eq_false_iff, Bool.or_eq_false_iff, decide_eq_true_eq, decide_eq_false_iff_not, ne_eq, Decidable.not_not] at *; unfold itemErr; by_cases hn : x.Node = default <;> simp only [hn, ne_eq, not_true, not_false_eq_true, and_true, and_false, or_false, false_or, true_and, or_true, true_or] at * <;> (repeat' split) <;> omega) (by decide)]
        · refine .skip ?_
          refine .seq ?_
          have h0 : itemErr x = 0 := (by simp only [Bool.and_eq_true, Bool.or_eq_true, Bool.not_eq_true', Bool.not_eq_false', Bool.and_eq_false_iff, Bool.or_eq_false_iff, decide_eq_true_eq, decide_eq_false_iff_not, ne_eq, Decidable.not_not] at *; unfold itemErr; by_cases hn : x.Node = default <;> simp only [hn, ne_eq, not_true, not_false_eq_true, and_true, and_false, or_false, false_or, true_and, or_true, true_or] at * <;> (repeat' split) <;> omega)
          obtain ⟨⟨k1, k2⟩, ⟨p1, p2⟩, ⟨n1, n2⟩, bx⟩ := itemOk h0
          have l1 := numL_le7 (n := x.Place.toNat) (by omega)
          have l2 := numL_le7 (n := x.Kind.toNat) (by omega)
          have l3 := numL_le7 (n := x.Number.toNat) (by omega)
          have l4 := numL_le7 (n := x.Box.length) (by omega)
          refine .drawC (by kernel_rfl) 12 [[], [(81, 0)], [(82, 1)], [], [(84, 3)], [(85, 4)], [(83, 2), (86, 5)], [], [(88, 7)], [(89, 8)], [(87, 6), (90, 9)], [(91, 10)]] [2, 6, 10, 11] rfl (by kernel_rfl) rfl (by kernel_rfl) (by decide) ?_
          refine ⟨_, fun H => OpP.fldPF G_api_Item.l0 (fun x => x.Place) fd27_0 rfl (fun _ => rfl) (.t rfl) rfl, ?_⟩
          refine ⟨_, fun H => OpP.ldP ty3 (.t rfl) rfl, ?_⟩
          refine .inl ?_
          refine ⟨_, fun H => OpP.fldPF G_api_Item.l1 (fun x => x.Kind) fd27_1 rfl (fun _ => rfl) (.t rfl) rfl, ?_⟩
          refine ⟨_, fun H => OpP.ldP ty3 (.t rfl) rfl, ?_⟩
          refine ⟨_, fun H => OpP.call1 hG (rNumber_c _ (by omega) (by omega)) (.cons (.t rfl) .nil) rfl, ?_⟩
          refine .inl ?_
          refine ⟨_, fun H => OpP.fldPF G_api_Item.l2 (fun x => x.Number) fd27_2 rfl (fun _ => rfl) (.t rfl) rfl, ?_⟩
          refine ⟨_, fun H => OpP.ldP ty3 (.t rfl) rfl, ?_⟩
          refine ⟨_, fun H => OpP.call1 hG (rNumber_c _ (by omega) (by omega)) (.cons (.t rfl) .nil) rfl, ?_⟩
          refine .inl ?_
          refine .inl ?_
          refine OpH.call0 hG (rNumber_own _ (by omega) (by omega)) (.cons (.t rfl) .nil) fun r83 Hs83 hr83 => ?_
          obtain ⟨u83, rfl, rfl⟩ := hr83
          refine OpH.append st25 (.inl ⟨_, Tryd.underlying25⟩) rfl .z (.v (.t rfl)) (by first | omega | (simp; done) | (simp; omega) | (simp at *; omega)) (by first | omega | (simp; done) | (simp; omega) | (simp at *; omega)) (fun w87 => ?_) rfl
          refine OpH.append st25 (.inl ⟨_, Tryd.underlying25⟩) rfl .z (.v (.t rfl)) (by first | omega | (simp; done) | (simp; omega) | (simp at *; omega)) (by first | omega | (simp; done) | (simp; omega) | (simp at *; omega)) (fun w91 => ?_) rfl
          refine OpH.ofP (OpP.assign (.t rfl) ?_)
          show wpB _ _ _ _ _ _ ((4, _) :: (91, _) :: (90, _) :: (89, _) :: (88, _) :: (87, _) :: (86, _) :: (85, _) :: (84, _) :: (83, _) :: (82, _) :: (81, _) :: _) _
          refine .nil ?_
          refine .seq ?_
          refine .drawCF [true, false] (by kernel_rfl) 11 [[], [], [(93, 1)], [(92, 0), (94, 2)], [], [(96, 4)], [(97, 5)], [(95, 3), (98, 6)], [(99, 7)], [(100, 8)], []] [0, 3, 7, 8, 9] rfl (by kernel_rfl) rfl (by kernel_rfl) (by decide) ?_
          refine .inl ?_
          refine ⟨_, fun H => OpP.fldPF G_api_Item.l3 (fun x => x.Node) fd27_3 rfl (fun _ => rfl) (.t rfl) rfl, ?_⟩
          refine ⟨_, fun H => OpP.slArrP (by decide) ar24 (.t rfl) rfl, ?_⟩
          refine .inl ?_
          refine ⟨_, fun H => OpP.fldPF G_api_Item.l4 (fun x => x.Box) fd27_4 rfl (fun _ => rfl) (.t rfl) rfl, ?_⟩
          refine ⟨_, fun H => OpP.ldP ty25 (.t rfl) rfl, ?_⟩
          refine ⟨_, fun H => OpP.call1 hG (rField_c _ (by omega)) (.cons (.t rfl) .nil) rfl, ?_⟩
          refine .inl ?_
          refine .inl ?_
          refine .inl ?_
          refine ⟨_, fun H => OpP.assign (.i rfl) rfl, ?_⟩
          refine ⟨⟨([], fun k => List.getD [_, (true, .none_)] k (true, .none_)), rfl⟩, ?_⟩
          refine OpH.ofP (OpP.move (.t rfl) ?_)
          refine ⟨⟨([], fun k => List.getD [_, (true, .none_)] k (true, .none_)), rfl⟩, ?_⟩
          refine OpH.append st25 (.inl ⟨_, Tryd.underlying25⟩) rfl .z (.v (.t rfl)) (by first | omega | (simp; done) | (simp; omega) | (simp at *; omega)) (by first | omega | (simp; done) | (simp; omega) | (simp at *; omega)) (fun w95 => ?_) rfl
          refine ⟨⟨([], fun k => List.getD [_, (true, .none_)] k (true, .none_)), rfl⟩, ?_⟩
          refine OpH.append st25 (.inl ⟨_, Tryd.underlying25⟩) rfl .z (.v (.t rfl)) (by first | omega | (simp; done) | (simp; omega) | (simp at *; omega)) (by first | omega | (simp; done) | (simp; omega) | (simp at *; omega)) (fun w99 => ?_) rfl
          refine ⟨⟨([], fun k => List.getD [_, (true, .none_)] k (true, .none_)), rfl⟩, ?_⟩
          refine OpH.lend0 hG (wordOwn_c _ _ (by decide) (by simp [Arr.len]; omega)) (.cons (.e (.s [105, 116, 101, 109] (by decide) (by decide))) (.cons (.own rfl .z) .nil)) (by rintro _ _ ⟨u, rfl, rfl⟩; exact .own) fun r100 Hs100 hr100 => ?_
          obtain ⟨u100, rfl, rfl⟩ := hr100
          refine ⟨⟨([_], fun k => List.getD [_, (true, .none_)] k (true, .none_)), rfl⟩, ?_⟩
          refine OpH.ofP (OpP.assign (.t rfl) ?_)
          refine ⟨⟨([_], fun k => List.getD [_, (true, .none_)] k (true, .none_)), rfl⟩, ?_⟩
          show wpB _ _ _ _ _ _ ((3, _) :: (2, _) :: (100, _) :: (99, _) :: (98, _) :: (97, _) :: (96, _) :: (95, _) :: (94, _) :: (93, _) :: (92, _) :: _) _
          refine .frzOwn hC .z ?_
          refine .as 2 rfl .z ?_
          refine .nil ?_
          refine .ret ?_
          refine ⟨_, .r2 rfl (.tmp rfl) (.tmp rfl), ?_⟩
          rw [itemMsg_ok h0]; rfl
theorem itemMsgP_c (x : Item) (hx : x.Box.length ≤ 1000000) : FunA gl Tryd.prog 33 [.v x] (fun r => r = .t2 (.v (itemMsg x).1) (.v (itemMsg x).2)) := by
  refine FunA.intro Tryd.func33 rfl (by kernel_rfl) 53 rfl rfl _ rfl fun C hC hG => ?_
  refine .seq ?_
  refine .region rfl ?_
  refine .h (.box (.t rfl) fun b1 => .p (.assign (.nilS (α := UInt8)) (.p (.assign (.i rfl) ?_))))
  refine .nil ?_
  refine .seq ?_
  refine .seq ?_
  refine .frzOb hC .z ?_
  refine .asP 1 rfl .z ?_
  refine .region rfl ?_
  refine .p (.ldP ty27 (.t rfl) (.p (.call1 hG (itemCheck_c _) (.cons (.t rfl) .nil) (.p (.assign (.t rfl) ?_)))))
  refine .nil ?_
  refine .seq ?_
  refine .region rfl ?_
  refine .p (.move (.t rfl) (.p (.neqI (.t rfl) (.i rfl) ?_)))
  refine .nil ?_
  refine .condP (.t rfl) (fun hc17 => ?_) (fun hc17 => ?_)
  · refine .seq ?_
    refine .region rfl ?_
    refine .p (.move (.t rfl) (.p (.assign (.nilS (α := UInt8)) (.p (.assign (.t rfl) ?_)))))
    refine .nil ?_
    refine .ret ?_
    refine ⟨_, .r2 rfl (.tmp rfl) (.tmp rfl), ?_⟩
    rw [itemMsg_of rfl hc17]
  · refine .skip ?_
    refine .seq ?_
    have h0 : itemErr x = 0 := by omega
    obtain ⟨⟨k1, k2⟩, ⟨p1, p2⟩, ⟨n1, n2⟩, bx⟩ := itemOk h0
    have l1 := numL_le7 (n := x.Place.toNat) (by omega)
    have l2 := numL_le7 (n := x.Kind.toNat) (by omega)
    have l3 := numL_le7 (n := x.Number.toNat) (by omega)
    have l4 := numL_le7 (n := x.Box.length) (by omega)
    refine .region rfl ?_
    refine .p (.fldPF G_api_Item.l0 (fun x => x.Place) fd27_0 rfl (fun _ => rfl) (.t rfl) (.p (.ldP ty3 (.t rfl) (.p (.call1 hG ((vrApp_own _ _ (by decide) (by omega) (by omega)).frzT) (.cons .nilS (.cons (.t rfl) .nil)) (.p (.move (.t rfl) (.p (.ext2_0 (.t rfl) (.p (.ext2_1 (.t rfl) ?_)))))))))))
    refine .p (.assign (.t rfl) (.p (.assign (.t rfl) ?_)))
    refine .nil ?_
    refine .seq ?_
    refine .region rfl ?_
    refine .p (.fldPF G_api_Item.l1 (fun x => x.Kind) fd27_1 rfl (fun _ => rfl) (.t rfl) (.p (.ldP ty3 (.t rfl) (.p (.call1 hG ((vrApp_own _ _ (by decide) (by omega) (by omega)).frzT) (.cons .nilS (.cons (.t rfl) .nil)) (.p (.move (.t rfl) (.p (.ext2_0 (.t rfl) (.p (.ext2_1 (.t rfl) ?_)))))))))))
    refine .p (.assign (.t rfl) (.p (.assign (.t rfl) ?_)))
    refine .nil ?_
    refine .seq ?_
    refine .region rfl ?_
    refine .p (.fldPF G_api_Item.l2 (fun x => x.Number) fd27_2 rfl (fun _ => rfl) (.t rfl) (.p (.ldP ty3 (.t rfl) (.p (.call1 hG ((vrApp_own _ _ (by decide) (by omega) (by omega)).frzT) (.cons .nilS (.cons (.t rfl) .nil)) (.p (.move (.t rfl) (.p (.ext2_0 (.t rfl) (.p (.ext2_1 (.t rfl) ?_)))))))))))
    refine .p (.assign (.t rfl) (.p (.assign (.t rfl) ?_)))
    refine .nil ?_
    refine .seq ?_
    refine .region rfl ?_
    refine .p (.fldPF G_api_Item.l4 (fun x => x.Box) fd27_4 rfl (fun _ => rfl) (.t rfl) (.p (.ldP ty25 (.t rfl) (.p (.call1 hG (field_c _ _ (by decide) (by omega)) (.cons .nilS (.cons (.t rfl) .nil)) (.p (.move (.t rfl) (.p (.ext2_0 (.t rfl) (.p (.ext2_1 (.t rfl) ?_)))))))))))
    refine .p (.assign (.t rfl) (.p (.assign (.t rfl) ?_)))
    refine .nil ?_
    refine .seq ?_
    refine .region rfl ?_
    refine .p (.move (.t rfl) (.p (.move (.t rfl) (.p (.move (.t rfl) (.p (.fldPF G_api_Item.l3 (fun x => x.Node) fd27_3 rfl (fun _ => rfl) (.t rfl) (.p (.slArrP (by decide) ar24 (.t rfl) (.p (.move (.t rfl) ?_)))))))))))
    refine .p (.buildA (⟨[_, _, _, _, _], rfl⟩ : (Arr 5 (List UInt8))) ty101 ar101 (.cons (Lens.idx 0 (by decide)) _ rfl (.t rfl) (.cons (Lens.idx 1 (by decide)) _ rfl (.t rfl) (.cons (Lens.idx 2 (by decide)) _ rfl (.t rfl) (.cons (Lens.idx 3 (by decide)) _ rfl (.t rfl) (.cons (Lens.idx 4 (by decide)) _ rfl (.t rfl) .nil))))) rfl (.h (.alloc ty101 fun b13 => .n (.stW ty101 (.t rfl) (.t rfl) .z ?_))))
    refine .nil ?_
    refine .seq ?_
    refine .frzOb hC .z ?_
    refine .asP 13 rfl .z ?_
    refine .region rfl ?_
    refine .p (.slArrP (by decide) ar101 (.t rfl) (.p (.call1 hG (Join_c _ (by simp) (by simp) (by simp [Lib.lens, Arr.len]; omega)) (.cons (.t rfl) (.cons .nilS .nil)) (.p (.call1 hG (chainMsg_c _ _ (by decide) (by simp [Arr.len]; omega)) (.cons (.s [105, 116, 101, 109] (by decide) (by decide)) (.cons (.t rfl) .nil)) (.p (.assign (.t rfl) (.p (.assign (.i rfl) ?_)))))))))
    refine .nil ?_
    refine .ret ?_
    refine ⟨_, .r2 rfl (.tmp rfl) (.tmp rfl), ?_⟩
    rw [itemMsg_ok h0]; simp [itemBytes, itemStr]
def algSign (a : Alg) (k : Tag) (x : Item) : Alg × Item × Int :=
  if itemErr x ≠ 0 then (default, default, itemErr x) else
  if (algMac a k (itemBytes x)).2.2 ≠ 0 then (default, default, (algMac a k (itemBytes x)).2.2) else ((algMac a k (itemBytes x)).1, { x with Tag := (algMac a k (itemBytes x)).2.1 }, 0)
def itemCheck (a : Alg) (k : Tag) (x : Item) : Int :=
  if itemErr x ≠ 0 then itemErr x else if (algLook a k (itemBytes x)).2 = false ∨ (algLook a k (itemBytes x)).1 ≠ x.Tag then 19 else 0
theorem itemErr_msg {x : Item} : (itemMsg x).2 = itemErr x := by unfold itemMsg; split <;> first | rfl | omega
theorem itemMsg_1 {x : Item} (h : (itemMsg x).2 = 0) : (itemMsg x).1 = itemBytes x := by rw [itemErr_msg] at h; rw [itemMsg_ok h]
theorem rSign_c (a : Alg) (k : Tag) (x : Item) : FunA gl Tryd.prog 30 [.v a, .v k, .v x] (fun r => r = .t3 (.v (algSign a k x).1) (.v (algSign a k x).2.1) (.v (algSign a k x).2.2)) := by
  refine FunA.intro Tryd.func30 rfl (by kernel_rfl) 39 rfl rfl _ rfl fun C hC hG => ?_
  refine .seq ?_
  refine .region rfl ?_
  refine .h (.box (.t rfl) fun b3 => .h (.box (.t rfl) fun b4 => .h (.box (.t rfl) fun b5 => .h (.alloc ty33 fun b6 => .h (.alloc ty27 fun b7 => .p (.assign (.i rfl) ?_))))))
  refine .nil ?_
  refine .seq ?_
  refine .region rfl ?_
  refine .p (.ldW ty27 (.t rfl) (.s (.s .z)) (.p (.call1 hG (rItemMsg_c _) (.cons (.t rfl) .nil) (.p (.move (.t rfl) (.p (.ext2_0 (.t rfl) (.p (.ext2_1 (.t rfl) (.p (.assign (.t rfl) ?_)))))))))))
  refine .p (.assign (.t rfl) ?_)
  refine .nil ?_
  refine .seq ?_
  refine .seq ?_
  refine .region rfl ?_
  refine .p (.move (.t rfl) (.p (.neqI (.t rfl) (.i rfl) ?_)))
  refine .nil ?_
  refine .condP (.t rfl) (fun hc18 => ?_) (fun hc18 => ?_)
  · refine .seq ?_
    refine .region rfl ?_
    refine .p (.bS0 (α := G_api_Algebra) rfl ty33 fo33 (.p (.bS0 (α := G_api_Item) rfl ty27 fo27 (.p (.move (.t rfl) (.n (.stW ty33 (.t rfl) (.t rfl) (.s .z) (.n (.stW ty27 (.t rfl) (.t rfl) .z (.p (.assign (.t rfl) ?_)))))))))))
    refine .nil ?_
    refine .ret ?_
    refine ⟨_, .r3 rfl (.cell ty33 rfl (.s .z)) (.cell ty27 rfl .z) (.tmp rfl), ?_⟩
    have h : itemErr x ≠ 0 := itemErr_msg ▸ hc18
    unfold algSign; rw [if_pos h, itemErr_msg]
  · refine .skip ?_
    refine .seq ?_
    refine .region rfl ?_
    refine .p (.ldW ty33 (.t rfl) (.s (.s (.s (.s .z)))) (.p (.ldW ty24 (.t rfl) (.s (.s (.s .z))) (.p (.move (.t rfl) (.p (.call1 hG (rMac_c _ _ _) (.cons (.t rfl) (.cons (.t rfl) (.cons (.t rfl) .nil))) (.p (.move (.t rfl) (.p (.ext3_0 (.t rfl) ?_)))))))))))
    refine .p (.ext3_1 (.t rfl) (.p (.ext3_2 (.t rfl) (.h (.alloc ty24 fun b11 => .n (.stW ty33 (.t rfl) (.t rfl) (.s (.s (.s (.s (.s .z))))) (.n (.stW ty24 (.t rfl) (.t rfl) .z (.p (.assign (.t rfl) ?_))))))))))
    refine .nil ?_
    refine .seq ?_
    refine .seq ?_
    refine .region rfl ?_
    refine .p (.move (.t rfl) (.p (.neqI (.t rfl) (.i rfl) ?_)))
    refine .nil ?_
    refine .condP (.t rfl) (fun hc31 => ?_) (fun hc31 => ?_)
    · refine .seq ?_
      refine .region rfl ?_
      refine .p (.bS0 (α := G_api_Algebra) rfl ty33 fo33 (.p (.bS0 (α := G_api_Item) rfl ty27 fo27 (.p (.move (.t rfl) (.n (.stW ty33 (.t rfl) (.t rfl) (.s (.s .z)) (.n (.stW ty27 (.t rfl) (.t rfl) (.s .z) (.p (.assign (.t rfl) ?_)))))))))))
      refine .nil ?_
      refine .ret ?_
      refine ⟨_, .r3 rfl (.cell ty33 rfl (.s (.s .z))) (.cell ty27 rfl (.s .z)) (.tmp rfl), ?_⟩
      have h0 : (itemMsg x).2 = 0 := by omega
      rw [itemMsg_1 h0] at hc31 ⊢
      unfold algSign; rw [if_neg (itemErr_msg ▸ hc18), if_pos hc31]
    · refine .skip ?_
      refine .seq ?_
      refine .region rfl ?_
      refine .p (.ldW ty24 (.t rfl) .z (.p (.fldW G_api_Item.l5 fd27_5 rfl (.t rfl) (.n (.stF (fun y x => { x with Tag := y }) ty24 (.t rfl) (.t rfl) (.s (.s (.s .z))) (fun _ _ => rfl) ?_)))))
      refine .nil ?_
      refine .seq ?_
      refine .drawCF [false, true, true, false, false, false] (by kernel_rfl) 5 [[], [], [(37, 0)], [(38, 1)], []] [2, 3] rfl (by kernel_rfl) rfl (by kernel_rfl) (by decide) ?_
      refine ⟨_, fun H => OpP.ldW ty33 (.t rfl) (Hole.app (.s (.s (.s (.s (.s .z)))))) rfl, ?_⟩
      refine ⟨_, fun H => OpP.ldW ty27 (.t rfl) (Hole.app (.s (.s (.s .z)))) rfl, ?_⟩
      refine .inl ?_
      refine .inl ?_
      refine ⟨_, fun H => OpP.assign (.i rfl) rfl, ?_⟩
      refine ⟨⟨([], fun k => List.getD [(true, .none_), _, _, (true, .none_), (true, .none_), (true, .none_)] k (true, .none_)), rfl⟩, ?_⟩
      refine OpH.stW ty33 (.t rfl) (.t rfl) (.s (.s .z)) ?_
      refine ⟨⟨([], fun k => List.getD [(true, .none_), _, _, (true, .none_), (true, .none_), (true, .none_)] k (true, .none_)), rfl⟩, ?_⟩
      refine OpH.stW ty27 (.t rfl) (.t rfl) (.s .z) ?_
      refine ⟨⟨([], fun k => List.getD [(true, .none_), _, _, (true, .none_), (true, .none_), (true, .none_)] k (true, .none_)), rfl⟩, ?_⟩
      show wpB _ _ _ _ _ _ ((8, _) :: (38, _) :: (37, _) :: _) _
      refine .nil ?_
      refine .ret ?_
      refine ⟨_, .r3 rfl (.cell ty33 rfl (.s (.s .z))) (.cell ty27 rfl (.s .z)) (.tmp rfl), ?_⟩
      have h0 : (itemMsg x).2 = 0 := by omega
      rw [itemMsg_1 h0] at hc31 ⊢
      unfold algSign; rw [if_neg (itemErr_msg ▸ hc18), if_neg hc31]
theorem itemCheckP_c (a : Alg) (k : Tag) (x : Item) (hx : x.Box.length ≤ 1000000) : FunA gl Tryd.prog 13 [.v a, .v k, .v x] (fun r => r = .v (itemCheck a k x)) := by
  refine FunA.intro Tryd.func13 rfl (by kernel_rfl) 34 rfl rfl _ rfl fun C hC hG => ?_
  refine .seq ?_
  refine .region rfl ?_
  refine .h (.box (.t rfl) fun b3 => .h (.box (.t rfl) fun b4 => .h (.box (.t rfl) fun b5 => .p (.assign (.i rfl) ?_))))
  refine .nil ?_
  refine .seq ?_
  refine .region rfl ?_
  refine .p (.ldW ty27 (.t rfl) .z (.p (.call1 hG (itemMsgP_c _ hx) (.cons (.t rfl) .nil) (.p (.move (.t rfl) (.p (.ext2_0 (.t rfl) (.p (.ext2_1 (.t rfl) (.p (.assign (.t rfl) ?_)))))))))))
  refine .p (.assign (.t rfl) ?_)
  refine .nil ?_
  refine .seq ?_
  refine .seq ?_
  refine .region rfl ?_
  refine .p (.move (.t rfl) (.p (.neqI (.t rfl) (.i rfl) ?_)))
  refine .nil ?_
  refine .condP (.t rfl) (fun hc17 => ?_) (fun hc17 => ?_)
  · refine .seq ?_
    refine .region rfl ?_
    refine .p (.move (.t rfl) (.p (.assign (.t rfl) ?_)))
    refine .nil ?_
    refine .ret ?_
    refine ⟨_, .r1 rfl (.tmp rfl), ?_⟩
    unfold itemCheck; rw [if_pos (itemErr_msg ▸ hc17), itemErr_msg]
  · refine .skip ?_
    refine .seq ?_
    refine .seq ?_
    refine .region rfl ?_
    refine .p (.ldW ty33 (.t rfl) (.s (.s .z)) (.p (.ldW ty24 (.t rfl) (.s .z) (.p (.move (.t rfl) (.p (.call1 hG (algLook_c _ _ _) (.cons (.t rfl) (.cons (.t rfl) (.cons (.t rfl) .nil))) (.p (.move (.t rfl) (.p (.ext2_0 (.t rfl) ?_)))))))))))
    refine .p (.ext2_1 (.t rfl) (.h (.alloc ty24 fun b9 => .n (.stW ty24 (.t rfl) (.t rfl) .z (.p (.assign (.t rfl) ?_))))))
    refine .nil ?_
    refine .seq ?_
    refine .region rfl ?_
    refine .p (.move (.t rfl) (.p (.not (.t rfl) (.p (.move (.t rfl) ?_)))))
    refine .go 28 rfl (.t rfl) (fun hg29 => .ldW ty24 (.t rfl) .z rfl) ?_
    refine .go 28 rfl (.t rfl) (fun hg30 => .fldW G_api_Item.l5 fd27_5 rfl (.t rfl) rfl) ?_
    refine .go 28 rfl (.t rfl) (fun hg31 => .ldF (fun x => x.Tag) ty24 (.o rfl (beq_iff_eq.2 hg31)) (.s .z) (fun _ => rfl) rfl) ?_
    refine .go 28 rfl (.t rfl) (fun hg32 => .neqA8 Tryd.underlying24 sz5 Tryd.underlying5 gd24 (.o rfl (beq_iff_eq.2 hg32)) (.o rfl (beq_iff_eq.2 hg32)) rfl) ?_
    refine .p (.pickOr (.t rfl) (fun hp => (.o rfl (beq_iff_eq.2 hp))) ?_)
    refine .nil ?_
    refine .cond (.t rfl) (fun hc33 => ?_) (fun hc33 => ?_)
    · refine .seq ?_
      refine .region rfl ?_
      refine .p (.assign (.i rfl) ?_)
      refine .nil ?_
      refine .ret ?_
      refine ⟨_, .r1 rfl (.tmp rfl), ?_⟩
      rw [itemMsg_1 (by omega)] at hc33; unfold itemCheck; rw [if_neg (itemErr_msg ▸ hc17), if_pos (by simp only [Bool.and_eq_true, Bool.or_eq_true, Bool.not_eq_true', Bool.not_eq_false', Bool.and_eq_false_iff, Bool.or_eq_false_iff, decide_eq_true_eq, decide_eq_false_iff_not, ne_eq, Decidable.not_not] at *; exact hc33)]
    · refine .skip ?_
      refine .seq ?_
      refine .region rfl ?_
      refine .p (.assign (.i rfl) ?_)
      refine .nil ?_
      refine .ret ?_
      refine ⟨_, .r1 rfl (.tmp rfl), ?_⟩
      rw [itemMsg_1 (by omega)] at hc33; unfold itemCheck; rw [if_neg (itemErr_msg ▸ hc17), if_neg (by simp only [Bool.and_eq_true, Bool.or_eq_true, Bool.not_eq_true', Bool.not_eq_false', Bool.and_eq_false_iff, Bool.or_eq_false_iff, decide_eq_true_eq, decide_eq_false_iff_not, ne_eq, Decidable.not_not] at *; rw [hc33.1]; simp [hc33.2])]
def sameItem (a b : Item) : Bool := decide (a.Place = b.Place) && decide (a.Kind = b.Kind) && decide (a.Number = b.Number) && decide (a.Node = b.Node) && decide (a.Tag = b.Tag) && decide (a.Box = b.Box)
theorem rSameItem_c (a b : Item) : FunA gl Tryd.prog 11 [.v a, .v b] (fun r => r = .v (sameItem a b)) := by
  refine FunA.intro Tryd.func11 rfl (by kernel_rfl) 45 rfl rfl _ rfl fun C hC hG => ?_
  refine .seq ?_
  refine .region rfl ?_
  refine .h (.box (.t rfl) fun b2 => .h (.box (.t rfl) fun b3 => .p (.assign .b ?_)))
  refine .nil ?_
  refine .seq ?_
  refine .region rfl ?_
  refine .p (.fldW G_api_Item.l0 fd27_0 rfl (.t rfl) (.p (.ldF (fun x => x.Place) ty3 (.t rfl) (.s .z) (fun _ => rfl) (.p (.fldW G_api_Item.l0 fd27_0 rfl (.t rfl) (.p (.ldF (fun x => x.Place) ty3 (.t rfl) .z (fun _ => rfl) (.p (.eqlI (.t rfl) (.t rfl) (.p (.move (.t rfl) ?_)))))))))))
  refine .go 10 rfl (.t rfl) (fun hg11 => .fldW G_api_Item.l1 fd27_1 rfl (.t rfl) rfl) ?_
  refine .go 10 rfl (.t rfl) (fun hg12 => .ldF (fun x => x.Kind) ty3 (.o rfl (beq_iff_eq.2 hg12)) (.s .z) (fun _ => rfl) rfl) ?_
  refine .go 10 rfl (.t rfl) (fun hg13 => .fldW G_api_Item.l1 fd27_1 rfl (.t rfl) rfl) ?_
  refine .go 10 rfl (.t rfl) (fun hg14 => .ldF (fun x => x.Kind) ty3 (.o rfl (beq_iff_eq.2 hg14)) .z (fun _ => rfl) rfl) ?_
  refine .go 10 rfl (.t rfl) (fun hg15 => .eqlI (.o rfl (beq_iff_eq.2 hg15)) (.o rfl (beq_iff_eq.2 hg15)) rfl) ?_
  refine .p (.pickAnd (.t rfl) (fun hp => (.o rfl (beq_iff_eq.2 hp))) (.p (.move (.t rfl) ?_)))
  refine .go 17 rfl (.t rfl) (fun hg18 => .fldW G_api_Item.l2 fd27_2 rfl (.t rfl) rfl) ?_
  refine .go 17 rfl (.t rfl) (fun hg19 => .ldF (fun x => x.Number) ty3 (.o rfl (beq_iff_eq.2 hg19)) (.s .z) (fun _ => rfl) rfl) ?_
  refine .go 17 rfl (.t rfl) (fun hg20 => .fldW G_api_Item.l2 fd27_2 rfl (.t rfl) rfl) ?_
  refine .go 17 rfl (.t rfl) (fun hg21 => .ldF (fun x => x.Number) ty3 (.o rfl (beq_iff_eq.2 hg21)) .z (fun _ => rfl) rfl) ?_
  refine .go 17 rfl (.t rfl) (fun hg22 => .eqlI (.o rfl (beq_iff_eq.2 hg22)) (.o rfl (beq_iff_eq.2 hg22)) rfl) ?_
  refine .p (.pickAnd (.t rfl) (fun hp => (.o rfl (beq_iff_eq.2 hp))) (.p (.move (.t rfl) ?_)))
  refine .go 24 rfl (.t rfl) (fun hg25 => .fldW G_api_Item.l3 fd27_3 rfl (.t rfl) rfl) ?_
  refine .go 24 rfl (.t rfl) (fun hg26 => .ldF (fun x => x.Node) ty24 (.o rfl (beq_iff_eq.2 hg26)) (.s .z) (fun _ => rfl) rfl) ?_
  refine .go 24 rfl (.t rfl) (fun hg27 => .fldW G_api_Item.l3 fd27_3 rfl (.t rfl) rfl) ?_
  refine .go 24 rfl (.t rfl) (fun hg28 => .ldF (fun x => x.Node) ty24 (.o rfl (beq_iff_eq.2 hg28)) .z (fun _ => rfl) rfl) ?_
  refine .go 24 rfl (.t rfl) (fun hg29 => .eqlA8 Tryd.underlying24 sz5 Tryd.underlying5 gd24 (.o rfl (beq_iff_eq.2 hg29)) (.o rfl (beq_iff_eq.2 hg29)) rfl) ?_
  refine .p (.pickAnd (.t rfl) (fun hp => (.o rfl (beq_iff_eq.2 hp))) (.p (.move (.t rfl) ?_)))
  refine .go 31 rfl (.t rfl) (fun hg32 => .fldW G_api_Item.l5 fd27_5 rfl (.t rfl) rfl) ?_
  refine .go 31 rfl (.t rfl) (fun hg33 => .ldF (fun x => x.Tag) ty24 (.o rfl (beq_iff_eq.2 hg33)) (.s .z) (fun _ => rfl) rfl) ?_
  refine .go 31 rfl (.t rfl) (fun hg34 => .fldW G_api_Item.l5 fd27_5 rfl (.t rfl) rfl) ?_
  refine .go 31 rfl (.t rfl) (fun hg35 => .ldF (fun x => x.Tag) ty24 (.o rfl (beq_iff_eq.2 hg35)) .z (fun _ => rfl) rfl) ?_
  refine .go 31 rfl (.t rfl) (fun hg36 => .eqlA8 Tryd.underlying24 sz5 Tryd.underlying5 gd24 (.o rfl (beq_iff_eq.2 hg36)) (.o rfl (beq_iff_eq.2 hg36)) rfl) ?_
  refine .p (.pickAnd (.t rfl) (fun hp => (.o rfl (beq_iff_eq.2 hp))) (.p (.move (.t rfl) ?_)))
  refine .go 38 rfl (.t rfl) (fun hg39 => .fldW G_api_Item.l4 fd27_4 rfl (.t rfl) rfl) ?_
  refine .go 38 rfl (.t rfl) (fun hg40 => .ldF (fun x => x.Box) ty25 (.o rfl (beq_iff_eq.2 hg40)) (.s .z) (fun _ => rfl) rfl) ?_
  refine .go 38 rfl (.t rfl) (fun hg41 => .fldW G_api_Item.l4 fd27_4 rfl (.t rfl) rfl) ?_
  refine .go 38 rfl (.t rfl) (fun hg42 => .ldF (fun x => x.Box) ty25 (.o rfl (beq_iff_eq.2 hg42)) .z (fun _ => rfl) rfl) ?_
  refine .go 38 rfl (.t rfl) (fun hg43 => .call1 hG (Same_c _ _) (.cons (.o rfl (beq_iff_eq.2 hg43)) (.cons (.o rfl (beq_iff_eq.2 hg43)) .nil)) rfl) ?_
  refine .p (.pickAnd (.t rfl) (fun hp => (.o rfl (beq_iff_eq.2 hp))) (.p (.assign (.t rfl) ?_)))
  refine .nil ?_
  refine .ret ?_
  refine ⟨_, .r1 rfl (.tmp rfl), ?_⟩
  rfl
def mkErr (e f : Int) : Int := if e = 0 then f else e
theorem into_mk (w : Value) (s : MkU) (k : Tag) (x : Item) (hx : x.Box.length ≤ 1000000) (hl : s.a.Macs.length ≤ 1000000) : FunH gl Tryd.prog 29 [mp w, .v k, .v x] [.usr w s]
    (fun r Hs => ∃ s' : MkU, Hs = [.usr w s'] ∧ r = .v ({ x with Tag := (mkMac s.a (mkErr s.e (itemErr x)) k (itemMsg x).1).1 } : Item) ∧ s'.a = (mkMac s.a (mkErr s.e (itemErr x)) k (itemMsg x).1).2.1 ∧ s'.e = (mkMac s.a (mkErr s.e (itemErr x)) k (itemMsg x).1).2.2) := by
  refine FunH.introS Tryd.func29 rfl (by kernel_rfl) 27 rfl rfl _ rfl _ rfl fun C hC hG => ?_
  refine .seq ?_
  refine .region rfl ?_
  refine .h (.box (.t rfl) fun b4 => .h (.box (.t rfl) fun b5 => .h (.alloc ty27 fun b6 => ?_)))
  refine .nil ?_
  refine .seq ?_
  refine .region rfl ?_
  refine .p (.ldW ty27 (.t rfl) (.s .z) (.p (.call1 hG (itemMsgP_c _ hx) (.cons (.t rfl) .nil) (.p (.move (.t rfl) (.p (.ext2_0 (.t rfl) (.p (.ext2_1 (.t rfl) (.p (.assign (.t rfl) ?_)))))))))))
  refine .p (.assign (.t rfl) ?_)
  refine .nil ?_
  refine .seq ?_
  refine .region rfl ?_
  refine .p (.move (.t rfl) (.p (.move (.t rfl) (.h (.callM hG (Fail_mk _ _ _) (.s (.s (.s .z))) (.cons (.t rfl) (.cons (.t rfl) .nil)) (by rintro _ _ ⟨_, rfl, _⟩; exact ⟨_, rfl⟩) fun r16 B16 hr16 => ?_)))))
  obtain ⟨x16, hB, ha16, he16⟩ := hr16
  cases hB
  refine .nil ?_
  refine .seq ?_
  refine .region rfl ?_
  refine .p (.fldW G_api_Item.l4 fd27_4 rfl (.t rfl) (.p (.ldF (fun x => x.Box) ty25 (.t rfl) (.s .z) (fun _ => rfl) (.p (.call1 hG (bytesClone_c _ (by first | omega | (simp; done) | (simp; omega) | (simp at *; omega))) (.cons (.t rfl) .nil) (.p (.fldW G_api_Item.l4 fd27_4 rfl (.t rfl) (.n (.stF (fun y x => { x with Box := y }) ty25 (.t rfl) (.t rfl) (.s .z) (fun _ _ => rfl) ?_)))))))))
  refine .nil ?_
  refine .seq ?_
  refine .region rfl ?_
  refine .p (.move (.t rfl) (.p (.ldW ty24 (.t rfl) (.s (.s .z)) (.p (.move (.t rfl) (.h (.callM hG (Mac_mk _ _ _ _ (by rw [ha16]; exact hl)) (.s (.s (.s .z))) (.cons (.t rfl) (.cons (.t rfl) (.cons (.t rfl) .nil))) (by rintro _ _ ⟨_, rfl, _⟩; exact ⟨_, rfl⟩) fun r24 B24 hr24 => ?_)))))))
  obtain ⟨x24, hB, rfl, ha24, he24⟩ := hr24
  cases hB
  refine .p (.fldW G_api_Item.l5 fd27_5 rfl (.t rfl) (.n (.stF (fun y x => { x with Tag := y }) ty24 (.t rfl) (.t rfl) (.s .z) (fun _ _ => rfl) ?_)))
  refine .nil ?_
  refine .seq ?_
  refine .region rfl ?_
  refine .p (.ldW ty27 (.t rfl) (.s .z) (.n (.stW ty27 (.t rfl) (.t rfl) .z ?_)))
  refine .nil ?_
  refine .ret ?_
  refine ⟨_, .r1 rfl (.cell ty27 rfl .z), ?_⟩
  refine ⟨_, .cons (.s (.s (.s .z))) (.nil), ?_⟩
  rw [ha16, he16, itemErr_msg] at ha24 he24 ⊢
  exact ⟨x24, rfl, rfl, ha24, he24⟩
theorem done_mk (w : Value) (s : MkU) (x : Item) : FunH gl Tryd.prog 28 [mp w, .v x] [.usr w s]
    (fun r Hs => ∃ s' : MkU, Hs = [.usr w s'] ∧ r = .t3 (.v (if s.e ≠ 0 then default else rawAlg s.a s.um s.ub)) (.v (if s.e ≠ 0 then default else x)) (.v s.e) ∧ s' = s) := by
  refine FunH.introS Tryd.func28 rfl (by kernel_rfl) 21 rfl rfl _ rfl _ rfl fun C hC hG => ?_
  refine .seq ?_
  refine .region rfl ?_
  refine .h (.box (.t rfl) fun b3 => .h (.alloc tyR33 fun b4 => .h (.alloc ty27 fun b5 => .p (.assign (.i rfl) ?_))))
  refine .nil ?_
  refine .seq ?_
  refine .region rfl ?_
  refine .p (.move (.t rfl) (.h (.callM hG (Done_mk _ _) (.s (.s (.s .z))) (.cons (.t rfl) .nil) (by rintro _ _ ⟨_, rfl, _⟩; exact ⟨_, rfl⟩) fun r11 B11 hr11 => ?_)))
  obtain ⟨x11, hB, rfl, rfl⟩ := hr11
  cases hB
  refine .p (.move (.t rfl) (.p (.ext2_0 (.t rfl) (.p (.ext2_1 (.t rfl) (.h (.alloc tyR33 fun b7 => .n (.stW tyR33 (.t rfl) (.t rfl) .z (.p (.assign (.t rfl) ?_))))))))))
  refine .nil ?_
  refine .seq ?_
  refine .seq ?_
  refine .region rfl ?_
  refine .p (.move (.t rfl) (.p (.neqI (.t rfl) (.i rfl) ?_)))
  refine .nil ?_
  refine .condP (.t rfl) (fun hc15 => ?_) (fun hc15 => ?_)
  · refine .seq ?_
    refine .region rfl ?_
    refine .p (.bS0 (α := G_api_AlgebraR) rfl tyR33 fo33 (.p (.bS0 (α := G_api_Item) rfl ty27 fo27 (.p (.move (.t rfl) (.n (.stW tyR33 (.t rfl) (.t rfl) (.s (.s .z)) (.n (.stW ty27 (.t rfl) (.t rfl) (.s .z) (.p (.assign (.t rfl) ?_)))))))))))
    refine .nil ?_
    refine .ret ?_
    refine ⟨_, .r3 rfl (.cell tyR33 rfl (.s (.s .z))) (.cell ty27 rfl (.s .z)) (.tmp rfl), ?_⟩
    refine ⟨_, .cons (.s (.s (.s (.s .z)))) (.nil), ?_⟩
    rw [if_pos hc15, if_pos hc15]; exact ⟨_, rfl, rfl, rfl⟩
  · refine .skip ?_
    refine .seq ?_
    refine .drawCF [false, true, true, false, false] (by kernel_rfl) 5 [[], [], [(19, 0)], [(20, 1)], []] [2, 3] rfl (by kernel_rfl) rfl (by kernel_rfl) (by decide) ?_
    refine ⟨_, fun H => OpP.ldW tyR33 (.t rfl) (Hole.app .z) rfl, ?_⟩
    refine ⟨_, fun H => OpP.ldW ty27 (.t rfl) (Hole.app (.s (.s (.s .z)))) rfl, ?_⟩
    refine .inl ?_
    refine .inl ?_
    refine ⟨_, fun H => OpP.assign (.i rfl) rfl, ?_⟩
    refine ⟨⟨([], fun k => List.getD [(true, .none_), _, _, (true, .none_), (true, .none_)] k (true, .none_)), rfl⟩, ?_⟩
    refine OpH.stW tyR33 (.t rfl) (.t rfl) (.s (.s .z)) ?_
    refine ⟨⟨([], fun k => List.getD [(true, .none_), _, _, (true, .none_), (true, .none_)] k (true, .none_)), rfl⟩, ?_⟩
    refine OpH.stW ty27 (.t rfl) (.t rfl) (.s .z) ?_
    refine ⟨⟨([], fun k => List.getD [(true, .none_), _, _, (true, .none_), (true, .none_)] k (true, .none_)), rfl⟩, ?_⟩
    show wpB _ _ _ _ _ _ ((6, _) :: (20, _) :: (19, _) :: _) _
    refine .nil ?_
    refine .ret ?_
    refine ⟨_, .r3 rfl (.cell tyR33 rfl (.s (.s .z))) (.cell ty27 rfl (.s .z)) (.tmp rfl), ?_⟩
    refine ⟨_, .cons (.s (.s (.s (.s .z)))) (.nil), ?_⟩
    rw [if_neg hc15, if_neg hc15, show x11.e = 0 by omega]; exact ⟨_, rfl, rfl, rfl⟩
theorem mkSign_done (a : Alg) (k : Tag) (x : Item) : (if (mkMac a (mkErr 0 (itemErr x)) k (itemMsg x).1).2.2 ≠ 0 then (default, default, (mkMac a (mkErr 0 (itemErr x)) k (itemMsg x).1).2.2) else
    ((mkMac a (mkErr 0 (itemErr x)) k (itemMsg x).1).2.1, ({ x with Tag := (mkMac a (mkErr 0 (itemErr x)) k (itemMsg x).1).1 } : Item), 0)) = algSign a k x := by
  unfold algSign mkErr
  rw [if_pos rfl]
  by_cases h : itemErr x = 0
  · rw [h, if_neg (show ¬ (0 : Int) ≠ 0 by decide), mkMac_of rfl rfl, itemMsg_ok h]
    by_cases h2 : (algMac a k (itemBytes x)).2.2 = 0
    · simp only [h2, ne_eq, not_true, if_false, if_true]
    · simp only [ne_eq, h2, not_false_eq_true, if_true]
  · rw [if_pos h, mkMac_err h]; simp only [ne_eq, h, not_false_eq_true, if_true]
theorem sign_c (a : Alg) (k : Tag) (x : Item) (hx : x.Box.length ≤ 1000000) (hl : a.Macs.length ≤ 1000000) : FunA gl Tryd.prog 41 [.v a, .v k, .v x] (fun r => r = .t3 (.v (algSign a k x).1) (.v (algSign a k x).2.1) (.v (algSign a k x).2.2)) := by
  refine FunA.intro Tryd.func41 rfl (by kernel_rfl) 21 rfl rfl _ rfl fun C hC hG => ?_
  refine .seq ?_
  refine .region rfl ?_
  refine .h (.box (.t rfl) fun b3 => .h (.box (.t rfl) fun b4 => .h (.box (.t rfl) fun b5 => .h (.alloc ty33 fun b6 => .h (.alloc ty27 fun b7 => .p (.assign (.i rfl) ?_))))))
  refine .nil ?_
  refine .seq ?_
  refine .region rfl ?_
  refine .p (.ldW ty33 (.t rfl) (.s (.s (.s (.s .z)))) (.h (.call0 hG (Begin_c _) (.cons (.t rfl) .nil) fun r11 Hs11 hr11 => ?_)))
  obtain ⟨w11, x11, rfl, rfl, ha11, he11⟩ := hr11
  show wpB _ _ _ _ _ _ _ ((true, _) :: _)
  refine .p (.assign (.t rfl) ?_)
  refine .nil ?_
  refine .seq ?_
  refine .region rfl ?_
  refine .p (.move (.t rfl) (.p (.move (.t rfl) (.p (.ldW ty24 (.t rfl) (.s (.s (.s (.s .z)))) (.p (.ldW ty27 (.t rfl) (.s (.s (.s .z))) (.h (.callM hG (into_mk _ _ _ _ hx (by rw [ha11]; exact hl)) .z (.cons (.t rfl) (.cons (.t rfl) (.cons (.t rfl) .nil))) (by rintro _ _ ⟨_, rfl, _⟩; exact ⟨_, rfl⟩) fun r16 B16 hr16 => ?_)))))))))
  obtain ⟨x16, hB, rfl, ha16, he16⟩ := hr16
  cases hB
  refine .h (.callM hG (done_mk _ _ _) .z (.cons (.t rfl) (.cons (.t rfl) .nil)) (by rintro _ _ ⟨_, rfl, _⟩; exact ⟨_, rfl⟩) fun r17 B17 hr17 => ?_)
  obtain ⟨x17, hB, rfl, rfl⟩ := hr17
  cases hB
  refine .p (.ext3_0 (.t rfl) ?_)
  refine mkDoneB hC 18 rfl .z ?_
  refine .p (.ext3_1 (.t rfl) (.p (.ext3_2 (.t rfl) (.n (.stW ty33 (.t rfl) (.t rfl) (.s (.s .z)) (.n (.stW ty27 (.t rfl) (.t rfl) (.s .z) (.p (.assign (.t rfl) ?_)))))))))
  refine .nil ?_
  refine .ret ?_
  refine ⟨_, .r3 rfl (.cell ty33 rfl (.s (.s .z))) (.cell ty27 rfl (.s .z)) (.tmp rfl), ?_⟩
  have h := mkSign_done a k x
  rw [ha11, he11] at ha16 he16 ⊢
  rw [← ha16, ← he16] at h
  rw [← h]
  by_cases h0 : x17.e = 0
  · simp only [h0, ne_eq, not_true, if_false]
  · simp only [ne_eq, h0, not_false_eq_true, if_true]
end Go.Proofs.YtkjpkdpnlioffaaDoor
set_option maxRecDepth 1000000
set_option linter.unusedVariables false
set_option linter.unusedSimpArgs false
namespace Go.Proofs.YtkjpkdpnlioffaaDoor
open Go.Fl Go.Ab Go.Mac Go.Sha
def openEq (k : Tag) (b : List UInt8) (x : G_api_Sealed) : Bool := decide (x.Key = k) && decide (x.Box = b)
def openBody (k : Tag) (b : List UInt8) : List UInt8 := xorL (xorB k ((b.take (b.length - 32)).take 8)) ((b.take (b.length - 32)).drop 8) ((b.take (b.length - 32)).drop 8).length
def algOpen (a : Alg) (k : Tag) (b : List UInt8) : List UInt8 × Int :=
  if a.Free then match a.Boxes.find? (openEq k b) with
    | some x => (x.Plain, 0)
    | none => ([], 14)
  else if b.length < 40 ∨ 296 < b.length then ([], 14) else
  if (hmac k.l (boxStr.l ++ b.take (b.length - 32))).l = b.drop (b.length - 32) then (openBody k b, 0) else ([], 14)
theorem algOpen_found {a : Alg} {k : Tag} {b : List UInt8} {x : G_api_Sealed} (hf : a.Free = true) (h : a.Boxes.find? (openEq k b) = some x) : algOpen a k b = (x.Plain, 0) := by unfold algOpen; rw [if_pos hf, h]
theorem algOpen_none {a : Alg} {k : Tag} {b : List UInt8} (hf : a.Free = true) (h : a.Boxes.find? (openEq k b) = none) : algOpen a k b = ([], 14) := by unfold algOpen; rw [if_pos hf, h]
theorem algOpen_size {a : Alg} {k : Tag} {b : List UInt8} (hf : a.Free = false) (h : b.length < 40 ∨ 296 < b.length) : algOpen a k b = ([], 14) := by unfold algOpen; rw [if_neg (by rw [hf]; decide), if_pos h]
theorem algOpen_bad {a : Alg} {k : Tag} {b : List UInt8} (hf : a.Free = false) (h : ¬ (b.length < 40 ∨ 296 < b.length)) (h2 : ¬ (hmac k.l (boxStr.l ++ b.take (b.length - 32))).l = b.drop (b.length - 32)) : algOpen a k b = ([], 14) := by
  unfold algOpen; rw [if_neg (by rw [hf]; decide), if_neg h, if_neg h2]
theorem algOpen_ok {a : Alg} {k : Tag} {b : List UInt8} (hf : a.Free = false) (h : ¬ (b.length < 40 ∨ 296 < b.length)) (h2 : (hmac k.l (boxStr.l ++ b.take (b.length - 32))).l = b.drop (b.length - 32)) : algOpen a k b = (openBody k b, 0) := by
  unfold algOpen; rw [if_neg (by rw [hf]; decide), if_neg h, if_pos h2]
theorem boxOpen_c (a : Alg) (k : Tag) (b : List UInt8) (hpl : ∀ x ∈ a.Boxes, x.Plain.length ≤ 1000000) : FunA gl Tryd.prog 32 [.v a, .v k, .v b] (fun r => r = .t2 (.v (algOpen a k b).1) (.v (algOpen a k b).2)) := by
  refine FunA.intro Tryd.func32 rfl (by kernel_rfl) 64 rfl rfl _ rfl fun C hC hG => ?_
  refine .seq ?_
  refine .region rfl ?_
  refine .h (.box (.t rfl) fun b3 => .h (.box (.t rfl) fun b4 => .p (.assign (.nilS (α := UInt8)) (.p (.assign (.i rfl) ?_)))))
  refine .nil ?_
  refine .seq ?_
  refine .seq ?_
  refine .frzOb hC .z ?_
  refine .asP 4 rfl .z ?_
  refine .frzOb hC (.s .z) ?_
  refine .asP 3 rfl (.s .z) ?_
  refine .region rfl ?_
  refine .p (.fldPF G_api_Algebra.l0 (fun x => x.Free) fd33_0 rfl (fun _ => rfl) (.t rfl) (.p (.ldP ty4 (.t rfl) ?_)))
  refine .nil ?_
  refine .cond (.t rfl) (fun hc13 => ?_) (fun hc13 => ?_)
  · refine .seq ?_
    refine .seq ?_
    refine .region rfl ?_
    refine .p (.fldPF G_api_Algebra.l4 (fun x => x.Boxes) fd33_4 rfl (fun _ => rfl) (.t rfl) (.p (.ldP ty31 (.t rfl) (.p (.len Tryd.underlying31 (.t rfl) (.p (.move (.i rfl) ?_)))))))
    refine .nil ?_
    refine .block ?_
    refine .loopR (α := Nat) [(2, _), (4, _), (15, _), (16, _)] (fun i R => (17, .v (i : Int)) :: R) (Function.const _ _) (fun i => i ≤ a.Boxes.length ∧ ∀ j (hj : j < a.Boxes.length), j < i → openEq k b a.Boxes[j] = false) (fun i => a.Boxes.length - i) (0) (.cons rfl (.cons rfl (.cons rfl (.cons rfl (.nil _))))) ?_ (.cons rfl (.cons rfl (.cons rfl (.cons rfl (.cons rfl (.nil _)))))) (rfl) fun i hF => ?_
    · simp
    obtain ⟨h1, h2⟩ := hF
    refine .seq ?_
    refine .region rfl ?_
    refine .p (.lss (.t rfl) (.t rfl) ?_)
    refine .nil ?_
    refine .seq ?_
    refine .condP (.t rfl) (fun hc18 => ?_) (fun hc18 => ?_)
    · refine .skip ?_
      refine .seq ?_
      refine .block ?_
      refine .seq ?_
      refine .region rfl ?_
      refine .p (.idx ty64 Tryd.underlying31 (.t rfl) (.t rfl) (by first | omega | (simp; done) | (simp; omega) | (simp at *; omega)) (by first | omega | (simp; done) | (simp; omega) | (simp at *; omega)) (.p (.ldP ty64 (.t rfl) (.h (.alloc ty64 fun b9 => .n (.stW ty64 (.t rfl) (.t rfl) .z ?_))))))
      refine .nil ?_
      refine .seq ?_
      refine .region rfl ?_
      refine .p (.fldW G_api_Sealed.l0 fd64_0 rfl (.t rfl) (.p (.ldF (fun x => x.Key) ty24 (.t rfl) .z (fun _ => rfl) (.p (.ldP ty24 (.t rfl) (.p (.eqlA8 Tryd.underlying24 sz5 Tryd.underlying5 gd24 (.t rfl) (.t rfl) (.p (.move (.t rfl) ?_)))))))))
      refine .go 25 rfl (.t rfl) (fun hg26 => .fldW G_api_Sealed.l3 fd64_3 rfl (.t rfl) rfl) ?_
      refine .go 25 rfl (.t rfl) (fun hg27 => .ldF (fun x => x.Box) ty25 (.o rfl (beq_iff_eq.2 hg27)) .z (fun _ => rfl) rfl) ?_
      refine .go 25 rfl (.t rfl) (fun hg28 => .move (.t rfl) rfl) ?_
      refine .go 25 rfl (.t rfl) (fun hg29 => .call1 hG (bytesEqual_c _ _) (.cons (.o rfl (beq_iff_eq.2 hg29)) (.cons (.o rfl (beq_iff_eq.2 hg29)) .nil)) rfl) ?_
      refine .p (.pickAnd (.t rfl) (fun hp => (.o rfl (beq_iff_eq.2 hp))) ?_)
      refine .nil ?_
      refine .cond (.t rfl) (fun hc30 => ?_) (fun hc30 => ?_)
      · refine .seq ?_
        have hb6 := hpl _ (List.getElem_mem (l := a.Boxes) (n := (i : Int).toNat) (by omega))
        refine .region rfl ?_
        refine .p (.fldW G_api_Sealed.l2 fd64_2 rfl (.t rfl) (.p (.ldF (fun x => x.Plain) ty25 (.t rfl) .z (fun _ => rfl) (.p (.call1 hG (bytesClone_c _ (by first | omega | (simp; done) | (simp; omega) | (simp at *; omega))) (.cons (.t rfl) .nil) (.p (.assign (.t rfl) (.p (.assign (.i rfl) ?_)))))))))
        refine .nil ?_
        refine .ret ?_
        refine ⟨_, .r2 rfl (.tmp rfl) (.tmp rfl), ?_⟩
        rw [algOpen_found hc13 (findS_some (k := i) (by omega) hc30 h2)]; rfl
      · refine .skip ?_
        refine .drop ?_
        refine .lenLe 15 rfl fun hl15 => ?_
        refine .region rfl ?_
        refine .p (.add (.t rfl) (.i rfl) (by first | omega | (simp; done) | (simp; omega) | (simp at *; omega)) (by first | omega | (simp; done) | (simp; omega) | (simp at *; omega)) (.p (.move (.t rfl) ?_)))
        refine .nil ?_
        refine ⟨i + 1, .cons rfl (.cons rfl (.cons rfl (.cons rfl (.cons rfl (.nil _))))), rfl, ?_, by omega⟩
        refine ⟨by omega, fun j hj hji => ?_⟩; rcases Nat.lt_or_ge j i with h | h; exact h2 j hj h; (obtain rfl : j = i := by omega); exact hc30
    · refine .exit ?_
      refine .seq ?_
      refine .region rfl ?_
      refine .p (.assign (.nilS (α := UInt8)) (.p (.assign (.i rfl) ?_)))
      refine .nil ?_
      refine .ret ?_
      refine ⟨_, .r2 rfl (.tmp rfl) (.tmp rfl), ?_⟩
      rw [algOpen_none hc13 (findS_none fun j hj => h2 j hj (by omega))]
  · refine .skip ?_
    refine .seq ?_
    refine .seq ?_
    refine .region rfl ?_
    refine .p (.move (.t rfl) (.p (.len Tryd.underlying25 (.t rfl) (.p (.lss (.t rfl) (.i rfl) (.p (.move (.t rfl) ?_)))))))
    refine .go 38 rfl (.t rfl) (fun hg39 => .move (.t rfl) rfl) ?_
    refine .go 38 rfl (.t rfl) (fun hg40 => .len Tryd.underlying25 (.o rfl (beq_iff_eq.2 hg40)) rfl) ?_
    refine .go 38 rfl (.t rfl) (fun hg41 => .gtr (.o rfl (beq_iff_eq.2 hg41)) (.i rfl) rfl) ?_
    refine .p (.pickOr (.t rfl) (fun hp => (.o rfl (beq_iff_eq.2 hp))) ?_)
    refine .nil ?_
    refine .cond (.t rfl) (fun hc42 => ?_) (fun hc42 => ?_)
    · refine .seq ?_
      refine .region rfl ?_
      refine .p (.assign (.nilS (α := UInt8)) (.p (.assign (.i rfl) ?_)))
      refine .nil ?_
      refine .ret ?_
      refine ⟨_, .r2 rfl (.tmp rfl) (.tmp rfl), ?_⟩
      rw [algOpen_size hc13 (by simp at hc42; omega)]
    · refine .skip ?_
      refine .seq ?_
      refine .region rfl ?_
      refine .p (.move (.t rfl) (.p (.move (.t rfl) (.p (.len Tryd.underlying25 (.t rfl) (.p (.sub (.t rfl) (.i rfl) (by first | omega | (simp; done) | (simp; omega) | (simp at *; omega)) (by first | omega | (simp; done) | (simp; omega) | (simp at *; omega)) (.p (.slHi ty5 Tryd.underlying25 (.t rfl) (.t rfl) (by first | omega | (simp; done) | (simp; omega) | (simp at *; omega)) (by first | omega | (simp; done) | (simp; omega) | (simp at *; omega)) (.p (.assign (.t rfl) ?_)))))))))))
      refine .nil ?_
      refine .seq ?_
      refine .region rfl ?_
      refine .p (.ldP ty24 (.t rfl) (.p (.move (.t rfl) (.p (.call1 hG (boxCheck_c _ _ (by first | omega | (simp; done) | (simp; omega) | (simp at *; omega))) (.cons (.t rfl) (.cons (.t rfl) .nil)) (.h (.alloc ty24 fun b11 => .n (.stW ty24 (.t rfl) (.t rfl) .z ?_))))))))
      refine .nil ?_
      refine .seq ?_
      refine .seq ?_
      refine .frzOb hC .z ?_
      refine .asP 11 rfl .z ?_
      refine .draw (by kernel_rfl) 7 [[], [], [], [(53, 2)], [(52, 1), (54, 3)], [(51, 0), (55, 4)], [(56, 5)]] rfl (by kernel_rfl) rfl ?_
      refine ⟨_, OpP.slArrP (by decide) ar24 (.t rfl) rfl, ?_⟩
      refine ⟨_, OpP.move (.t rfl) rfl, ?_⟩
      refine ⟨_, OpP.move (.t rfl) rfl, ?_⟩
      refine ⟨_, OpP.len Tryd.underlying25 (.t rfl) rfl, ?_⟩
      refine ⟨_, OpP.slLo ty5 Tryd.underlying25 (.t rfl) (.t rfl) (by first | omega | (simp; done) | (simp; omega) | (simp at *; omega)) (by first | omega | (simp; done) | (simp; omega) | (simp at *; omega)) rfl, ?_⟩
      refine ⟨_, OpP.call1 hG (Equal_c _ _) (.cons (.t rfl) (.cons (.t rfl) .nil)) rfl, ?_⟩
      refine ⟨_, OpP.not (.t rfl) rfl, ?_⟩
      show wpB _ _ _ _ _ _ ((57, _) :: (56, _) :: (55, _) :: (54, _) :: (53, _) :: (52, _) :: (51, _) :: _) _
      refine .nil ?_
      refine .cond (.t rfl) (fun hc57 => ?_) (fun hc57 => ?_)
      · refine .seq ?_
        refine .region rfl ?_
        refine .p (.assign (.nilS (α := UInt8)) (.p (.assign (.i rfl) ?_)))
        refine .nil ?_
        refine .ret ?_
        refine ⟨_, .r2 rfl (.tmp rfl) (.tmp rfl), ?_⟩
        have e1 : ((b.length : Int) - 32).toNat = b.length - 32 := by omega
        have e2 : (List.take (b.length - 32) b).length = b.length - 32 := by simp
        rw [e1, Int.toNat_natCast, e2] at hc57
        rw [algOpen_bad hc13 (by simp at hc42; omega) (by simpa using hc57)]
      · refine .skip ?_
        refine .seq ?_
        refine .draw (by kernel_rfl) 8 [[], [], [(59, 1)], [], [(61, 3)], [(58, 0), (60, 2), (62, 4)], [(63, 5)], []] rfl (by kernel_rfl) rfl ?_
        refine ⟨_, OpP.ldP ty24 (.t rfl) rfl, ?_⟩
        refine ⟨_, OpP.move (.t rfl) rfl, ?_⟩
        refine ⟨_, OpP.slHi ty5 Tryd.underlying25 (.t rfl) (.i rfl) (by first | omega | (simp; done) | (simp; omega) | (simp at *; omega)) (by first | omega | (simp; done) | (simp; omega) | (simp at *; omega)) rfl, ?_⟩
        refine ⟨_, OpP.move (.t rfl) rfl, ?_⟩
        refine ⟨_, OpP.slLo ty5 Tryd.underlying25 (.t rfl) (.i rfl) (by first | omega | (simp; done) | (simp; omega) | (simp at *; omega)) (by first | omega | (simp; done) | (simp; omega) | (simp at *; omega)) rfl, ?_⟩
        refine ⟨_, OpP.call1 hG ((crypt_c _ _ _ (by first | omega | (simp; done) | (simp; omega) | (simp at *; omega)) (by first | omega | (simp; done) | (simp; omega) | (simp at *; omega))).frzA) (.cons (.t rfl) (.cons (.t rfl) (.cons (.t rfl) .nil))) rfl, ?_⟩
        refine ⟨_, OpP.assign (.t rfl) rfl, ?_⟩
        refine ⟨_, OpP.assign (.i rfl) rfl, ?_⟩
        show wpB _ _ _ _ _ _ ((7, _) :: (6, _) :: (63, _) :: (62, _) :: (61, _) :: (60, _) :: (59, _) :: (58, _) :: _) _
        refine .nil ?_
        refine .ret ?_
        refine ⟨_, .r2 rfl (.tmp rfl) (.tmp rfl), ?_⟩
        have e1 : ((b.length : Int) - 32).toNat = b.length - 32 := by omega
        have e2 : (List.take (b.length - 32) b).length = b.length - 32 := by simp
        rw [e1, Int.toNat_natCast, e2] at hc57
        rw [algOpen_ok hc13 (by simp at hc42; omega) (by simpa using hc57), e1]; rfl
def readN (b : List UInt8) : Nat → UInt64
  | 0 => 0
  | i + 1 => 256 * readN b i + (b.getD i 0).toUInt64
theorem readN_succ (b : List UInt8) (j : Nat) (h : (j : Int).toNat < b.length) : 256 * readN b j + (b[(j : Int).toNat]'h).toUInt64 = readN b (j + 1) := by
  have e : b.getD j 0 = b[(j : Int).toNat]'h := by
    rw [List.getD_eq_getElem?_getD, List.getElem?_eq_getElem (by omega)]; rfl
  rw [readN, e]
theorem shr8 (n : UInt64) (k : Nat) (hk : k < 64) : (n >>> UInt64.ofNat k).toUInt8.toNat = n.toNat / 2 ^ k % 256 := by
  rw [UInt64.toNat_toUInt8, UInt64.toNat_shiftRight, UInt64.toNat_ofNat_of_lt' (by have : UInt64.size = 18446744073709551616 := rfl; omega), Nat.mod_eq_of_lt hk, Nat.shiftRight_eq_div_pow]
theorem readN_be64 (b : List UInt8) (h : 8 ≤ b.length) : be64 (readN b 8) 8 = b.take 8 := by
  obtain ⟨c0, c1, c2, c3, c4, c5, c6, c7, r, rfl⟩ : ∃ c0 c1 c2 c3 c4 c5 c6 c7 r, b = c0 :: c1 :: c2 :: c3 :: c4 :: c5 :: c6 :: c7 :: r := by
    match b, h with
    | c0 :: c1 :: c2 :: c3 :: c4 :: c5 :: c6 :: c7 :: r, _ => exact ⟨_, _, _, _, _, _, _, _, _, rfl⟩
  have l0 := c0.toNat_lt; have l1 := c1.toNat_lt; have l2 := c2.toNat_lt; have l3 := c3.toNat_lt
  have l4 := c4.toNat_lt; have l5 := c5.toNat_lt; have l6 := c6.toNat_lt; have l7 := c7.toNat_lt
  have hN : (readN (c0 :: c1 :: c2 :: c3 :: c4 :: c5 :: c6 :: c7 :: r) 8).toNat = 256 * (256 * (256 * (256 * (256 * (256 * (256 * c0.toNat + c1.toNat) + c2.toNat) + c3.toNat) + c4.toNat) + c5.toNat) + c6.toNat) + c7.toNat := by
    simp only [readN, UInt64.toNat_add, UInt64.toNat_mul, List.getD_cons_zero, List.getD_cons_succ, UInt8.toNat_toUInt64, UInt64.toNat_ofNat]
    omega
  generalize readN (c0 :: c1 :: c2 :: c3 :: c4 :: c5 :: c6 :: c7 :: r) 8 = n at hN
  have key : ∀ (k : Nat) (c : UInt8), k < 64 → n.toNat / 2 ^ k % 256 = c.toNat → (n >>> UInt64.ofNat k).toUInt8 = c := fun k c hk h => UInt8.toNat_inj.1 ((shr8 n k hk).trans h)
  have e : be64 n 8 = [(n >>> UInt64.ofNat (56 - 8 * 0)).toUInt8, (n >>> UInt64.ofNat (56 - 8 * 1)).toUInt8, (n >>> UInt64.ofNat (56 - 8 * 2)).toUInt8, (n >>> UInt64.ofNat (56 - 8 * 3)).toUInt8, (n >>> UInt64.ofNat (56 - 8 * 4)).toUInt8, (n >>> UInt64.ofNat (56 - 8 * 5)).toUInt8, (n >>> UInt64.ofNat (56 - 8 * 6)).toUInt8, (n >>> UInt64.ofNat (56 - 8 * 7)).toUInt8] := rfl
  rw [e]
  simp only [List.take_succ_cons, List.take_zero]
  rw [key (56 - 8 * 0) c0 (by omega) (by simp; omega), key (56 - 8 * 1) c1 (by omega) (by simp; omega), key (56 - 8 * 2) c2 (by omega) (by simp; omega), key (56 - 8 * 3) c3 (by omega) (by simp; omega),
    key (56 - 8 * 4) c4 (by omega) (by simp; omega), key (56 - 8 * 5) c5 (by omega) (by simp; omega), key (56 - 8 * 6) c6 (by omega) (by simp; omega), key (56 - 8 * 7) c7 (by omega) (by simp; omega)]
theorem rOpen_c (a : Alg) (k : Tag) (b : List UInt8) (hpl : ∀ x ∈ a.Boxes, x.Plain.length ≤ 1000000) : FunA gl Tryd.prog 40 [.v a, .v k, .v b] (fun r => r = .t2 (.v (algOpen a k b).1) (.v (algOpen a k b).2)) := by
  refine FunA.intro Tryd.func40 rfl (by kernel_rfl) 89 rfl rfl _ rfl fun C hC hG => ?_
  refine .seq ?_
  refine .region rfl ?_
  refine .h (.box (.t rfl) fun b3 => .h (.box (.t rfl) fun b4 => .p (.assign (.nilS (α := UInt8)) (.p (.assign (.i rfl) ?_)))))
  refine .nil ?_
  refine .seq ?_
  refine .seq ?_
  refine .frzOb hC .z ?_
  refine .asP 4 rfl .z ?_
  refine .frzOb hC (.s .z) ?_
  refine .asP 3 rfl (.s .z) ?_
  refine .region rfl ?_
  refine .p (.fldPF G_api_Algebra.l0 (fun x => x.Free) fd33_0 rfl (fun _ => rfl) (.t rfl) (.p (.ldP ty4 (.t rfl) ?_)))
  refine .nil ?_
  refine .cond (.t rfl) (fun hc14 => ?_) (fun hc14 => ?_)
  · refine .seq ?_
    refine .seq ?_
    refine .region rfl ?_
    refine .p (.assign (.i rfl) ?_)
    refine .nil ?_
    refine .block ?_
    refine .loopR (α := Nat) [(2, _), (3, _), (4, _)] (fun i R => (8, .v (i : Int)) :: R) (Function.const _ _) (fun i => i ≤ a.Boxes.length ∧ ∀ j (hj : j < a.Boxes.length), j < i → openEq k b a.Boxes[j] = false) (fun i => a.Boxes.length - i) (0) (.cons rfl (.cons rfl (.cons rfl (.nil _)))) ?_ (.cons rfl (.cons rfl (.cons rfl (.cons rfl (.nil _))))) (rfl) fun i hF => ?_
    · simp
    obtain ⟨h1, h2⟩ := hF
    refine .seq ?_
    refine .seq ?_
    refine .region rfl ?_
    refine .p (.move (.t rfl) (.p (.fldPF G_api_Algebra.l4 (fun x => x.Boxes) fd33_4 rfl (fun _ => rfl) (.t rfl) (.p (.ldP ty31 (.t rfl) (.p (.len Tryd.underlying31 (.t rfl) (.p (.lss (.t rfl) (.t rfl) ?_)))))))))
    refine .nil ?_
    refine .condP (.t rfl) (fun hc19 => ?_) (fun hc19 => ?_)
    · refine .skip ?_
      refine .seq ?_
      refine .block ?_
      refine .seq ?_
      refine .draw (by kernel_rfl) 18 [[], [(22, 0)], [], [(23, 1), (24, 2)], [(25, 3)], [(26, 4)], [], [(27, 5), (28, 6)], [(29, 7)], [], [(31, 9)], [], [(32, 10), (33, 11)], [(34, 12)], [(35, 13)], [], [(36, 14), (37, 15)], [(30, 8), (38, 16)]] rfl (by kernel_rfl) rfl ?_
      refine ⟨_, OpP.fldPF G_api_Algebra.l4 (fun x => x.Boxes) fd33_4 rfl (fun _ => rfl) (.t rfl) rfl, ?_⟩
      refine ⟨_, OpP.ldP ty31 (.t rfl) rfl, ?_⟩
      refine ⟨_, OpP.move (.t rfl) rfl, ?_⟩
      refine ⟨_, OpP.idx ty64 Tryd.underlying31 (.t rfl) (.t rfl) (by first | omega | (simp; done) | (simp; omega) | (simp at *; omega)) (by first | omega | (simp; done) | (simp; omega) | (simp at *; omega)) rfl, ?_⟩
      refine ⟨_, OpP.fldPF G_api_Sealed.l0 (fun x => x.Key) fd64_0 rfl (fun _ => rfl) (.t rfl) rfl, ?_⟩
      refine ⟨_, OpP.ldP ty24 (.t rfl) rfl, ?_⟩
      refine ⟨_, OpP.ldP ty24 (.t rfl) rfl, ?_⟩
      refine ⟨_, OpP.eqlA8 Tryd.underlying24 sz5 Tryd.underlying5 gd24 (.t rfl) (.t rfl) rfl, ?_⟩
      refine ⟨_, OpP.move (.t rfl) rfl, ?_⟩
      refine ⟨_, ⟨_, _, rfl, rfl, fun hg31 => OpP.fldPF G_api_Algebra.l4 (fun x => x.Boxes) fd33_4 rfl (fun _ => rfl) (.t rfl) rfl⟩, ?_⟩
      refine ⟨_, ⟨_, _, rfl, rfl, fun hg32 => OpP.ldP ty31 (.o rfl (beq_iff_eq.2 hg32)) rfl⟩, ?_⟩
      refine ⟨_, ⟨_, _, rfl, rfl, fun hg33 => OpP.move (.t rfl) rfl⟩, ?_⟩
      refine ⟨_, ⟨_, _, rfl, rfl, fun hg34 => OpP.idx ty64 Tryd.underlying31 (.o rfl (beq_iff_eq.2 hg34)) (.o rfl (beq_iff_eq.2 hg34)) (by first | omega | (simp; omega) | (have := hg34; simp at this; omega)) (by first | omega | (simp; omega) | (have := hg34; simp at this; omega)) rfl⟩, ?_⟩
      refine ⟨_, ⟨_, _, rfl, rfl, fun hg35 => OpP.fldPF G_api_Sealed.l3 (fun x => x.Box) fd64_3 rfl (fun _ => rfl) (.o rfl (beq_iff_eq.2 hg35)) rfl⟩, ?_⟩
      refine ⟨_, ⟨_, _, rfl, rfl, fun hg36 => OpP.ldP ty25 (.o rfl (beq_iff_eq.2 hg36)) rfl⟩, ?_⟩
      refine ⟨_, ⟨_, _, rfl, rfl, fun hg37 => OpP.move (.t rfl) rfl⟩, ?_⟩
      refine ⟨_, ⟨_, _, rfl, rfl, fun hg38 => OpP.call1 hG (Same_c _ _) (.cons (.o rfl (beq_iff_eq.2 hg38)) (.cons (.o rfl (beq_iff_eq.2 hg38)) .nil)) rfl⟩, ?_⟩
      refine ⟨_, OpP.pickAnd (.t rfl) (fun hp => (.o rfl (beq_iff_eq.2 hp))) rfl, ?_⟩
      show wpB _ _ _ _ _ _ ((39, _) :: (38, _) :: (37, _) :: (36, _) :: (35, _) :: (34, _) :: (33, _) :: (32, _) :: (31, _) :: (30, _) :: (29, _) :: (28, _) :: (27, _) :: (26, _) :: (25, _) :: (24, _) :: (23, _) :: (22, _) :: _) _
      refine .nil ?_
      refine .cond (.t rfl) (fun hc39 => ?_) (fun hc39 => ?_)
      · refine .seq ?_
        have hb6 := hpl _ (List.getElem_mem (l := a.Boxes) (n := (i : Int).toNat) (by omega))
        refine .region rfl ?_
        refine .h (.buildSlice (α := UInt8) ty5 Tryd.underlying25 .nil rfl (by decide) fun b40 => .p (.fldPF G_api_Algebra.l4 (fun x => x.Boxes) fd33_4 rfl (fun _ => rfl) (.t rfl) (.p (.ldP ty31 (.t rfl) (.p (.move (.t rfl) (.p (.idx ty64 Tryd.underlying31 (.t rfl) (.t rfl) (by first | omega | (simp; done) | (simp; omega) | (simp at *; omega)) (by first | omega | (simp; done) | (simp; omega) | (simp at *; omega)) (.p (.fldPF G_api_Sealed.l2 (fun x => x.Plain) fd64_2 rfl (fun _ => rfl) (.t rfl) ?_))))))))))
        refine .p (.ldP ty25 (.t rfl) (.h (.append st25 (.inl ⟨_, Tryd.underlying25⟩) rfl .z (.v (.t rfl)) (by first | omega | (simp; done) | (simp; omega) | (simp at *; omega)) (by first | omega | (simp; done) | (simp; omega) | (simp at *; omega)) (fun w47 => .p (.assign (.t rfl) (.p (.assign (.i rfl) ?_)))) rfl)))
        refine .nil ?_
        refine .frzOwn hC .z ?_
        refine .as 6 rfl .z ?_
        refine .ret ?_
        refine ⟨_, .r2 rfl (.tmp rfl) (.tmp rfl), ?_⟩
        rw [algOpen_found hc14 (findS_some (k := i) (by omega) hc39 h2)]; rfl
      · refine .skip ?_
        refine .lenLe 17 rfl fun hl17 => ?_
        refine .region rfl ?_
        refine .p (.move (.t rfl) (.p (.add (.t rfl) (.i rfl) (by first | omega | (simp; done) | (simp; omega) | (simp at *; omega)) (by first | omega | (simp; done) | (simp; omega) | (simp at *; omega)) (.p (.assign (.t rfl) ?_)))))
        refine .nil ?_
        refine ⟨i + 1, .cons rfl (.cons rfl (.cons rfl (.cons rfl (.nil _)))), rfl, ?_, by omega⟩
        refine ⟨by omega, fun j hj hji => ?_⟩; rcases Nat.lt_or_ge j i with h | h; exact h2 j hj h; (obtain rfl : j = i := by omega); exact hc39
    · refine .exit ?_
      refine .seq ?_
      refine .region rfl ?_
      refine .p (.assign (.nilS (α := UInt8)) (.p (.assign (.i rfl) ?_)))
      refine .nil ?_
      refine .ret ?_
      refine ⟨_, .r2 rfl (.tmp rfl) (.tmp rfl), ?_⟩
      rw [algOpen_none hc14 (findS_none fun j hj => h2 j hj (by omega))]
  · refine .skip ?_
    refine .seq ?_
    refine .region rfl ?_
    refine .p (.move (.t rfl) (.p (.len Tryd.underlying25 (.t rfl) (.p (.assign (.t rfl) ?_)))))
    refine .nil ?_
    refine .seq ?_
    refine .seq ?_
    refine .region rfl ?_
    refine .p (.move (.t rfl) (.p (.lss (.t rfl) (.i rfl) (.p (.move (.t rfl) ?_)))))
    refine .go 52 rfl (.t rfl) (fun hg53 => .move (.t rfl) rfl) ?_
    refine .go 52 rfl (.t rfl) (fun hg54 => .gtr (.o rfl (beq_iff_eq.2 hg54)) (.i rfl) rfl) ?_
    refine .p (.pickOr (.t rfl) (fun hp => (.o rfl (beq_iff_eq.2 hp))) ?_)
    refine .nil ?_
    refine .cond (.t rfl) (fun hc55 => ?_) (fun hc55 => ?_)
    · refine .seq ?_
      refine .region rfl ?_
      refine .p (.assign (.nilS (α := UInt8)) (.p (.assign (.i rfl) ?_)))
      refine .nil ?_
      refine .ret ?_
      refine ⟨_, .r2 rfl (.tmp rfl) (.tmp rfl), ?_⟩
      rw [algOpen_size hc14 (by simp at hc55; omega)]
    · refine .skip ?_
      refine .seq ?_
      refine .drawC (by kernel_rfl) 8 [[], [], [], [(58, 2)], [(57, 1), (59, 3)], [(60, 4)], [(56, 0), (61, 5)], []] [7] rfl (by kernel_rfl) rfl (by kernel_rfl) (by decide) ?_
      refine ⟨_, fun H => OpP.slArrP (by decide) ar24 (.t rfl) rfl, ?_⟩
      refine ⟨_, fun H => OpP.move (.t rfl) rfl, ?_⟩
      refine ⟨_, fun H => OpP.move (.t rfl) rfl, ?_⟩
      refine ⟨_, fun H => OpP.sub (.t rfl) (.i rfl) (by first | omega | (simp; done) | (simp; omega) | (simp at *; omega)) (by first | omega | (simp; done) | (simp; omega) | (simp at *; omega)) rfl, ?_⟩
      refine ⟨_, fun H => OpP.slHi ty5 Tryd.underlying25 (.t rfl) (.t rfl) (by first | omega | (simp; done) | (simp; omega) | (simp at *; omega)) (by first | omega | (simp; done) | (simp; omega) | (simp at *; omega)) rfl, ?_⟩
      refine ⟨_, fun H => OpP.call1 hG (Word_c _ _ (by first | omega | (simp; done) | (simp; omega) | (simp at *; omega)) (by first | omega | (simp; done) | (simp; omega) | (simp at *; omega))) (.cons (.s [98, 111, 120] (by decide) (by decide)) (.cons (.t rfl) .nil)) rfl, ?_⟩
      refine ⟨_, fun H => OpP.call1 hG (rHmac_c _ _ (by first | omega | (simp; done) | (simp; omega) | (simp at *; omega)) (by first | omega | (simp; done) | (simp; omega) | (simp at *; omega))) (.cons (.t rfl) (.cons (.t rfl) .nil)) rfl, ?_⟩
      refine .inl ?_
      refine OpH.alloc ty24 fun b10 => ?_
      show wpB _ _ _ _ _ _ ((10, _) :: (62, _) :: (61, _) :: (60, _) :: (59, _) :: (58, _) :: (57, _) :: (56, _) :: _) _
      refine .n (.stW ty24 (.t rfl) (.t rfl) .z ?_)
      refine .nil ?_
      refine .seq ?_
      refine .seq ?_
      refine .frzOb hC .z ?_
      refine .asP 10 rfl .z ?_
      refine .draw (by kernel_rfl) 7 [[], [], [], [(65, 2)], [(64, 1), (66, 3)], [(63, 0), (67, 4)], [(68, 5)]] rfl (by kernel_rfl) rfl ?_
      refine ⟨_, OpP.slArrP (by decide) ar24 (.t rfl) rfl, ?_⟩
      refine ⟨_, OpP.move (.t rfl) rfl, ?_⟩
      refine ⟨_, OpP.move (.t rfl) rfl, ?_⟩
      refine ⟨_, OpP.sub (.t rfl) (.i rfl) (by first | omega | (simp; done) | (simp; omega) | (simp at *; omega)) (by first | omega | (simp; done) | (simp; omega) | (simp at *; omega)) rfl, ?_⟩
      refine ⟨_, OpP.slLo ty5 Tryd.underlying25 (.t rfl) (.t rfl) (by first | omega | (simp; done) | (simp; omega) | (simp at *; omega)) (by first | omega | (simp; done) | (simp; omega) | (simp at *; omega)) rfl, ?_⟩
      refine ⟨_, OpP.call1 hG (Same_c _ _) (.cons (.t rfl) (.cons (.t rfl) .nil)) rfl, ?_⟩
      refine ⟨_, OpP.not (.t rfl) rfl, ?_⟩
      show wpB _ _ _ _ _ _ ((69, _) :: (68, _) :: (67, _) :: (66, _) :: (65, _) :: (64, _) :: (63, _) :: _) _
      refine .nil ?_
      refine .cond (.t rfl) (fun hc69 => ?_) (fun hc69 => ?_)
      · refine .seq ?_
        refine .region rfl ?_
        refine .p (.assign (.nilS (α := UInt8)) (.p (.assign (.i rfl) ?_)))
        refine .nil ?_
        refine .ret ?_
        refine ⟨_, .r2 rfl (.tmp rfl) (.tmp rfl), ?_⟩
        have e1 : ((b.length : Int) - 32).toNat = b.length - 32 := by omega
        rw [e1] at hc69
        have h9 : (!decide ((hmac k.l (boxStr.l ++ b.take (b.length - 32))).l = b.drop (b.length - 32))) = true := hc69
        rw [algOpen_bad hc14 (by simp at hc55; omega) (by simpa using h9)]
      · refine .skip ?_
        refine .seq ?_
        refine .region rfl ?_
        refine .p (.assign (.u64 0 rfl) ?_)
        refine .nil ?_
        refine .seq ?_
        refine .seq ?_
        refine .region rfl ?_
        refine .p (.assign (.i rfl) ?_)
        refine .nil ?_
        refine .block ?_
        refine .loopR (α := Nat) [(2, _), (4, _), (9, _)] (fun j R => (11, .v (readN b j)) :: (12, .v (j : Int)) :: R) (Function.const _ _) (fun j => j ≤ 8) (fun j => 8 - j) (0) (.cons rfl (.cons rfl (.cons rfl (.nil _)))) ?_ (.cons rfl (.cons rfl (.cons rfl (.cons rfl (.cons rfl (.nil _)))))) (rfl) fun j hF => ?_
        · simp
        refine .seq ?_
        refine .seq ?_
        refine .region rfl ?_
        refine .p (.move (.t rfl) (.p (.lss (.t rfl) (.i rfl) ?_)))
        refine .nil ?_
        refine .condP (.t rfl) (fun hc71 => ?_) (fun hc71 => ?_)
        · refine .skip ?_
          refine .seq ?_
          refine .block ?_
          refine .region rfl ?_
          refine .p (.move (.t rfl) (.p (.mul64 (.u64 256 rfl) (.t rfl) (.p (.move (.t rfl) (.p (.move (.t rfl) (.p (.idx ty5 Tryd.underlying25 (.t rfl) (.t rfl) (by first | omega | (simp; done) | (simp; omega) | (simp at *; omega)) (by first | omega | (simp; done) | (simp; omega) | (simp at *; omega)) (.p (.ldP ty5 (.t rfl) ?_)))))))))))
          refine .p (.conv8_64 Tryd.underlying5 Tryd.underlying81 (.t rfl) (.p (.add64 (.t rfl) (.t rfl) (.p (.assign (.t rfl) ?_)))))
          refine .nil ?_
          refine .region rfl ?_
          refine .p (.move (.t rfl) (.p (.add (.t rfl) (.i rfl) (by first | omega | (simp; done) | (simp; omega) | (simp at *; omega)) (by first | omega | (simp; done) | (simp; omega) | (simp at *; omega)) (.p (.assign (.t rfl) ?_)))))
          refine .nil ?_
          refine ⟨j + 1, .cons (congrArg (fun q => some (AV.v q)) (readN_succ b j _)) (.cons rfl (.cons rfl (.cons rfl (.cons rfl (.nil _))))), rfl, ?_, by omega⟩
          omega
        · refine .exit ?_
          refine .seq ?_
          refine .draw (by kernel_rfl) 9 [[], [], [], [], [(85, 3)], [(84, 2), (86, 4)], [(82, 0), (83, 1), (87, 5)], [(88, 6)], []] rfl (by kernel_rfl) rfl ?_
          refine ⟨_, OpP.ldP ty24 (.t rfl) rfl, ?_⟩
          refine ⟨_, OpP.move (.t rfl) rfl, ?_⟩
          refine ⟨_, OpP.move (.t rfl) rfl, ?_⟩
          refine ⟨_, OpP.move (.t rfl) rfl, ?_⟩
          refine ⟨_, OpP.sub (.t rfl) (.i rfl) (by first | omega | (simp; done) | (simp; omega) | (simp at *; omega)) (by first | omega | (simp; done) | (simp; omega) | (simp at *; omega)) rfl, ?_⟩
          refine ⟨_, OpP.slLH ty5 Tryd.underlying25 (.t rfl) (.i rfl) (.t rfl) (by first | omega | (simp; done) | (simp; omega) | (simp at *; omega)) (by first | omega | (simp; done) | (simp; omega) | (simp at *; omega)) (by first | omega | (simp; done) | (simp; omega) | (simp at *; omega)) rfl, ?_⟩
          refine ⟨_, OpP.call1 hG (rStream_c _ _ _ (by first | omega | (simp; done) | (simp; omega) | (simp at *; omega))) (.cons (.t rfl) (.cons (.t rfl) (.cons (.t rfl) .nil))) rfl, ?_⟩
          refine ⟨_, OpP.assign (.t rfl) rfl, ?_⟩
          refine ⟨_, OpP.assign (.i rfl) rfl, ?_⟩
          show wpB _ _ _ _ _ _ ((7, _) :: (6, _) :: (88, _) :: (87, _) :: (86, _) :: (85, _) :: (84, _) :: (83, _) :: (82, _) :: _) _
          refine .nil ?_
          refine .ret ?_
          refine ⟨_, .r2 rfl (.tmp rfl) (.tmp rfl), ?_⟩
          obtain rfl : j = 8 := by omega
          have e1 : ((b.length : Int) - 32).toNat = b.length - 32 := by omega
          rw [e1] at hc69
          have h9 : (!decide ((hmac k.l (boxStr.l ++ b.take (b.length - 32))).l = b.drop (b.length - 32))) = false := hc69
          rw [algOpen_ok hc14 (by simp at hc55; omega) (by simpa using h9), e1, ← xorL_stream, readN_be64 b (by simp at hc55; omega)]
          unfold openBody
          rw [List.take_take, Nat.min_eq_left (by simp at hc55; omega)]; rfl
end Go.Proofs.YtkjpkdpnlioffaaDoor
set_option maxRecDepth 1000000
set_option linter.unusedVariables false
set_option linter.unusedSimpArgs false
namespace Go.Proofs.YtkjpkdpnlioffaaDoor
open Go.Fl Go.Ab Go.Mac Go.Sha
structure AlgOk (a : Alg) (n : Nat) : Prop where
  macs : a.Macs.length ≤ n
  boxes : a.Boxes.length ≤ n
  fresh0 : 0 ≤ a.Fresh
  fresh1 : a.Fresh ≤ n
  tag : ∀ i (h : i < a.Macs.length), a.Macs[i].Message.length ≤ 1000 ∧ a.Macs[i].Tag = (if a.Free then symTag 109 (i + 1 : Nat) else hmac a.Macs[i].Key.l a.Macs[i].Message)
  uniq : ∀ i (h : i < a.Macs.length), a.Macs.find? (macEq a.Macs[i].Key a.Macs[i].Message) = some a.Macs[i]
  box : ∀ i (h : i < a.Boxes.length), a.Boxes[i].Plain.length ≤ 256 ∧ 0 ≤ a.Boxes[i].Nonce ∧ a.Boxes[i].Nonce ≤ 281474976710656 ∧
    a.Boxes[i].Box = (if a.Free then (symTag 98 (i + 1 : Nat)).l ++ List.replicate (a.Boxes[i].Plain.length + 8) 0 else realBox a.Boxes[i].Key a.Boxes[i].Nonce a.Boxes[i].Plain)
theorem AlgOk.new (free : Bool) (seed : Tag) (n : Nat) : AlgOk ⟨free, seed, 0, [], []⟩ n :=
  ⟨Nat.zero_le _, Nat.zero_le _, Int.le_refl _, Int.natCast_nonneg _, fun i h => (by cases h), fun i h => (by cases h), fun i h => (by cases h)⟩
theorem AlgOk.le {a : Alg} {n m : Nat} (h : AlgOk a n) (hm : n ≤ m) : AlgOk a m :=
  ⟨Nat.le_trans h.macs hm, Nat.le_trans h.boxes hm, h.fresh0, by have := h.fresh1; omega, h.tag, h.uniq, h.box⟩
theorem AlgOk.key {a : Alg} {n : Nat} (h : AlgOk a n) (hn : n < 65536) : AlgOk (algKey a).1 (n + 1) := by
  have := h.fresh1
  have := h.fresh0
  unfold algKey
  rw [if_neg (by omega)]
  exact ⟨Nat.le_succ_of_le h.macs, Nat.le_succ_of_le h.boxes, by show 0 ≤ a.Fresh + 1; omega, by show a.Fresh + 1 ≤ ((n + 1 : Nat) : Int); omega, h.tag, h.uniq, h.box⟩
theorem macEq_iff (k : Tag) (m : List UInt8) (x : G_api_Mac) : macEq k m x = true ↔ x.Key = k ∧ x.Message = m := by simp [macEq]
theorem AlgOk.mac {a : Alg} {n : Nat} (h : AlgOk a n) (hn : n < 65536) {k : Tag} {m : List UInt8} (hm : m.length ≤ 1000) : AlgOk (algMac a k m).1 (n + 1) := by
  have h1 := h.macs
  cases hf : algFind a k m with
  | some x =>
    have e : algMac a k m = (a, x.Tag, 0) := by unfold algMac; rw [if_neg (by omega), hf]
    rw [e]; exact h.le (Nat.le_succ _)
  | none =>
    rw [algMac_new (by omega) hf (by omega)]
    have hnone : ∀ x ∈ a.Macs, macEq k m x = false := fun x hx => by
      have := List.find?_eq_none.1 hf x hx
      simpa using this
    refine ⟨by simp; exact h1, Nat.le_succ_of_le h.boxes, h.fresh0, by have := h.fresh1; show a.Fresh ≤ _; omega, fun i hi => ?_, fun i hi => ?_, h.box⟩
    · simp only [List.length_append, List.length_singleton] at hi
      by_cases e : i < a.Macs.length
      · simp only [List.getElem_append_left e]; exact h.tag i e
      · obtain rfl : i = a.Macs.length := by omega
        simp only [List.getElem_concat_length]
        refine ⟨hm, ?_⟩
        unfold newTag
        rw [show ((a.Macs.length + 1 : Nat) : Int) = (a.Macs.length : Int) + 1 by omega]
    · simp only [List.length_append, List.length_singleton] at hi
      by_cases e : i < a.Macs.length
      · simp only [List.getElem_append_left e]
        rw [List.find?_append, h.uniq i e]; rfl
      · obtain rfl : i = a.Macs.length := by omega
        simp only [List.getElem_concat_length]
        have : a.Macs.find? (macEq k m) = none := hf
        rw [List.find?_append, this]
        simp [macEq]
theorem AlgOk.boxed {a : Alg} {n : Nat} (h : AlgOk a n) (hn : n < 65536) {k : Tag} {c : Int} {p : List UInt8} (hc0 : 0 ≤ c) (hc1 : c ≤ 281474976710656) (hp : p.length ≤ 256) : AlgOk (algSeal a k c p).1 (n + 1) := by
  have h1 := h.boxes
  have hr : (decide (c < 0) || decide (281474976710656 < c)) = false := by simp; omega
  cases hf : a.Boxes.find? (sealEq k c p) with
  | some x => rw [algSeal_found hr (by omega) hf]; exact h.le (Nat.le_succ _)
  | none =>
    rw [algSeal_new hr (by omega) hf (by omega)]
    refine ⟨Nat.le_succ_of_le h.macs, by simp; exact h1, h.fresh0, by have := h.fresh1; show a.Fresh ≤ _; omega, h.tag, h.uniq, fun i hi => ?_⟩
    simp only [List.length_append, List.length_singleton] at hi
    by_cases e : i < a.Boxes.length
    · simp only [List.getElem_append_left e]; exact h.box i e
    · obtain rfl : i = a.Boxes.length := by omega
      simp only [List.getElem_concat_length]
      refine ⟨hp, hc0, hc1, ?_⟩
      unfold newBox
      rw [show ((a.Boxes.length + 1 : Nat) : Int) = (a.Boxes.length : Int) + 1 by omega]
theorem AlgOk.boxLe {a : Alg} {n : Nat} (h : AlgOk a n) : ∀ x ∈ a.Boxes, x.Box.length ≤ 1000000 := fun x hx => by
  obtain ⟨i, hi, rfl⟩ := List.getElem_of_mem hx
  obtain ⟨h1, _, _, h2⟩ := h.box i hi
  rw [h2]
  split
  · simp; omega
  · simp [realBox, sealHead, be64_length, streamL_length]; omega
theorem Next_e (w : Value) (d : G_macaroonmade_Deck) (n : Int) (hd : DeckOk d) (h0 : 0 < n) (h1 : n ≤ 4611686018427387904) :
    FunH gl Tryd.prog 19 [dk w, .v n] [.ob w d] (fun r Hs => ∃ v : Int, ∃ d', 0 ≤ v ∧ v < n ∧ DeckOk d' ∧ r = .v v ∧ Hs = [.ob w d']) :=
  (Next_c w d n hd h0 h1).mono fun r Hs ⟨h2, h3⟩ => ⟨_, _, (deckNext_le h0).1, (deckNext_le h0).2, deckNext_ok hd, h2, h3⟩
theorem Algebra_deck_c (w : Value) (d : G_macaroonmade_Deck) (hd : DeckOk d) : FunH gl Tryd.prog 5 [dk w] [.ob w d] (fun r Hs => ∃ a : Alg, ∃ d', AlgOk a 4 ∧ DeckOk d' ∧ r = .v a ∧ Hs = [.ob w d']) := by
  refine FunH.introS Tryd.func5 rfl (by kernel_rfl) 56 rfl rfl _ rfl _ rfl fun C hC hG => ?_
  refine .seq ?_
  refine .region rfl ?_
  refine .h (.alloc ty33 fun b2 => ?_)
  refine .nil ?_
  refine .seq ?_
  refine .region rfl ?_
  refine .p (.move (.t rfl) (.h (.callM hG (Next_e _ _ _ (by assumption) (by first | omega | (simp; done) | (simp; omega) | (simp at *; omega)) (by first | omega | (simp; done) | (simp; omega) | (simp at *; omega))) (.s .z) (.cons (.t rfl) (.cons (.i rfl) .nil)) (by rintro _ _ ⟨_, _, _, _, _, _, rfl⟩; exact ⟨_, rfl⟩) fun r6 B6 hr6 => ?_)))
  obtain ⟨v6, d6, h60, h61, hd6, rfl, hB⟩ := hr6
  cases hB
  refine .p (.eqlI (.t rfl) (.i rfl) (.p (.move (.t rfl) (.h (.callM hG (Tag_deck_c _ _ (by assumption)) (.s .z) (.cons (.t rfl) .nil) (by rintro _ _ ⟨_, _, _, _, rfl⟩; exact ⟨_, rfl⟩) fun r9 B9 hr9 => ?_)))))
  obtain ⟨t9, d9, hd9, rfl, hB⟩ := hr9
  cases hB
  refine .p (.call1 hG (rNew_c _ _) (.cons (.t rfl) (.cons (.t rfl) .nil)) (.h (.alloc ty33 fun b3 => .n (.stW ty33 (.t rfl) (.t rfl) .z ?_))))
  refine .nil ?_
  refine .seq ?_
  refine .seq ?_
  refine .region rfl ?_
  refine .p (.move (.t rfl) (.h (.callM hG (Next_e _ _ _ (by assumption) (by first | omega | (simp; done) | (simp; omega) | (simp at *; omega)) (by first | omega | (simp; done) | (simp; omega) | (simp at *; omega))) (.s (.s .z)) (.cons (.t rfl) (.cons (.i rfl) .nil)) (by rintro _ _ ⟨_, _, _, _, _, _, rfl⟩; exact ⟨_, rfl⟩) fun r12 B12 hr12 => ?_)))
  obtain ⟨v12, d12, h120, h121, hd12, rfl, hB⟩ := hr12
  cases hB
  refine .p (.assign (.t rfl) ?_)
  refine .nil ?_
  refine .block ?_
  refine .loopR (α := Nat × Alg × G_macaroonmade_Deck) [(0, _), (2, _), (3, _)] (fun x R => (4, .v (x.1 : Int)) :: R) (fun x => [(true, .ob (ptr b3 0) x.2.1), (true, .ob (ptr b2 0) (default : Alg)), (false, .ob w x.2.2)]) (fun x => x.1 ≤ 4 ∧ AlgOk x.2.1 (4 - x.1) ∧ DeckOk x.2.2) (fun x => x.1) ((v12.toNat, ⟨decide (v6 = 0), t9, 0, [], []⟩, d12)) (.cons rfl (.cons rfl (.cons rfl (.nil _)))) ?_ (.cons (congrArg (fun q => some (AV.v q)) (by dsimp only; omega)) (.cons rfl (.cons rfl (.cons rfl (.nil _))))) (rfl) fun x hF => ?_
  · exact ⟨by dsimp only; omega, AlgOk.new _ _ _, hd12⟩
  obtain ⟨k, a, e⟩ := x
  obtain ⟨hk, ha, he⟩ := hF
  dsimp only at hk ha he ⊢
  refine .seq ?_
  refine .seq ?_
  refine .region rfl ?_
  refine .p (.move (.t rfl) (.p (.gtr (.t rfl) (.i rfl) ?_)))
  refine .nil ?_
  refine .condP (.t rfl) (fun hc14 => ?_) (fun hc14 => ?_)
  · refine .skip ?_
    refine .seq ?_
    refine .block ?_
    refine .seq ?_
    refine .region rfl ?_
    refine .p (.move (.t rfl) (.h (.callM hG (Next_e _ _ _ (by assumption) (by first | omega | (simp; done) | (simp; omega) | (simp at *; omega)) (by first | omega | (simp; done) | (simp; omega) | (simp at *; omega))) (.s (.s .z)) (.cons (.t rfl) (.cons (.i rfl) .nil)) (by rintro _ _ ⟨_, _, _, _, _, _, rfl⟩; exact ⟨_, rfl⟩) fun r18 B18 hr18 => ?_)))
    obtain ⟨v18, d18, h180, h181, hd18, rfl, hB⟩ := hr18
    cases hB
    refine .nil ?_
    refine .block ?_
    refine .seq ?_
    refine .region rfl ?_
    refine .p (.eqlI (.t rfl) (.i rfl) (.p (.assign (.t rfl) ?_)))
    refine .nil ?_
    refine .condP (.t rfl) (fun hc19 => ?_) (fun hc19 => ?_)
    · refine .region rfl ?_
      refine .p (.ldW ty33 (.t rfl) .z (.p (.call1 hG (rKey_c _ ha.fresh0) (.cons (.t rfl) .nil) (.p (.move (.t rfl) (.p (.ext3_0 (.t rfl) (.p (.ext3_1 (.t rfl) (.p (.ext3_2 (.t rfl) ?_)))))))))))
      refine .n (.stW ty33 (.t rfl) (.t rfl) .z ?_)
      refine .nil ?_
      refine .region rfl ?_
      refine .p (.move (.t rfl) (.p (.sub (.t rfl) (.i rfl) (by first | omega | (simp; done) | (simp; omega) | (simp at *; omega)) (by first | omega | (simp; done) | (simp; omega) | (simp at *; omega)) (.p (.assign (.t rfl) ?_)))))
      refine .nil ?_
      refine ⟨(k - 1, _, _), .cons (congrArg (fun q => some (AV.v q)) (by dsimp only; omega)) (.cons rfl (.cons rfl (.cons rfl (.nil _)))), rfl, ?_, by dsimp only; omega⟩
      exact ⟨by dsimp only; omega, by dsimp only; first | exact (ha.key (by omega)).le (by omega) | exact (ha.mac (by omega) (by omega)).le (by omega) | exact (ha.boxed (by omega) (by omega) (by omega) (by omega)).le (by omega) | exact ha.le (by omega), by assumption⟩
    · refine .seq ?_
      refine .region rfl ?_
      refine .p (.eqlI (.t rfl) (.i rfl) (.p (.assign (.t rfl) ?_)))
      refine .nil ?_
      refine .condP (.t rfl) (fun hc27 => ?_) (fun hc27 => ?_)
      · refine .drawZ [[false, false, false], [false, false, true], [false, false, true], [true, false, true]] [[false, false, true], [false, false, false], [false, false, false], [], [false, false, true], [], [false, false, true], [false, false, true], [false, false, true], [true, false, true], [true, false, true], []] [[], [], [6, 7, 8, 9, 10], []] [] 3 (by kernel_rfl) 12 [[], [], [], [(31, 1), (32, 2)], [], [(34, 4)], [(30, 0), (33, 3), (35, 5)], [(36, 6)], [(29, 7)], [(29, 7)], [(29, 7)], [(37, 8)]] [3, 5, 11] rfl (by kernel_rfl) rfl (by kernel_rfl) rfl (by decide) (by simp) (fun p hp => by cases hp) (by kernel_rfl) rfl ?_
        refine ⟨_, fun H => OpP.ldW ty33 (.t rfl) (Hole.app .z) rfl, ?_⟩
        refine ⟨_, fun H => OpP.move (.t rfl) rfl, ?_⟩
        refine ⟨_, fun H => OpP.ldW ty33 (.t rfl) (Hole.app .z) rfl, ?_⟩
        refine .inl ?_
        refine ⟨_, fun H => OpP.move (.t rfl) rfl, ?_⟩
        refine .inl ?_
        refine .inl ?_
        refine .inl ?_
        refine .inl ?_
        refine .inl ?_
        refine .inl ?_
        refine .inl ?_
        refine ⟨rfl, ?_⟩
        refine ⟨⟨fun k => List.getD [(true, .none_), (true, .none_), (true, .none_)] k (true, .none_), rfl⟩, fun Ys9 => ?_⟩
        refine OpH.callM hG (Known_deck_c _ _ _ (by assumption) (by have := ha.macs; omega) (by have := ha.boxes; omega)) (Hole.app (Hole.app (.s (.s .z)))) (.cons (.t rfl) (.cons (.t rfl) .nil)) (by rintro _ _ ⟨_, _, _, _, rfl⟩; exact ⟨_, rfl⟩) fun r33 B33 hr33 => ?_
        obtain ⟨t33, d33, hd33, rfl, hB⟩ := hr33
        cases hB
        refine ⟨[], _, rfl, ?_⟩
        refine ⟨⟨fun k => List.getD [(true, .none_), (true, .none_), _] k (true, .none_), rfl⟩, fun Ys9 => ?_⟩
        refine OpH.callM hG (Bytes_deck_c _ _ _ (by assumption) (by first | omega | (simp; done) | (simp; omega) | (simp at *; omega)) (by first | omega | (simp; done) | (simp; omega) | (simp at *; omega))) (Hole.app (Hole.app (.s (.s .z)))) (.cons (.t rfl) (.cons (.i rfl) .nil)) (by rintro _ _ ⟨_, _, _, _, _, rfl⟩; exact ⟨_, rfl⟩) fun r35 B35 hr35 => ?_
        obtain ⟨l35, hl35, d35, hd35, rfl, hB⟩ := hr35
        cases hB
        refine ⟨[], _, rfl, ?_⟩
        refine ⟨_, fun H => OpP.call1 hG (rMac_c _ _ _) (.cons (.t rfl) (.cons (.t rfl) (.cons (.t rfl) .nil))) rfl, ?_⟩
        refine ⟨_, fun H => OpP.move (.t rfl) rfl, ?_⟩
        refine ⟨_, fun H => OpP.ext3_0 (.t rfl) rfl, ?_⟩
        refine ⟨_, fun H => OpP.ext3_1 (.t rfl) rfl, ?_⟩
        refine ⟨_, fun H => OpP.ext3_2 (.t rfl) rfl, ?_⟩
        refine ⟨⟨fun k => List.getD [(true, .none_), (true, .none_), _] k (true, .none_), rfl⟩, fun Ys9 => ?_⟩
        refine OpH.stW ty33 (.t rfl) (.t rfl) (Hole.app (Hole.app .z)) ?_
        refine ⟨[], _, rfl, ?_⟩
        refine ⟨⟨fun k => List.getD [_, (true, .none_), _] k (true, .none_), rfl⟩, fun ws9 => ?_⟩
        refine ⟨⟨fun k => List.getD [_, (true, .none_), _] k (true, .none_), rfl⟩, fun _ => ?_⟩
        show wpB _ _ _ _ _ _ ((39, _) :: (38, _) :: (37, _) :: (29, _) :: (36, _) :: (35, _) :: (34, _) :: (33, _) :: (32, _) :: (31, _) :: (30, _) :: _) _
        refine .nil ?_
        refine .region rfl ?_
        refine .p (.move (.t rfl) (.p (.sub (.t rfl) (.i rfl) (by first | omega | (simp; done) | (simp; omega) | (simp at *; omega)) (by first | omega | (simp; done) | (simp; omega) | (simp at *; omega)) (.p (.assign (.t rfl) ?_)))))
        refine .nil ?_
        refine ⟨(k - 1, _, _), .cons (congrArg (fun q => some (AV.v q)) (by dsimp only; omega)) (.cons rfl (.cons rfl (.cons rfl (.nil _)))), rfl, ?_, by dsimp only; omega⟩
        exact ⟨by dsimp only; omega, by dsimp only; first | exact (ha.key (by omega)).le (by omega) | exact (ha.mac (by omega) (by omega)).le (by omega) | exact (ha.boxed (by omega) (by omega) (by omega) (by omega)).le (by omega) | exact ha.le (by omega), by assumption⟩
      · refine .seq ?_
        refine .region rfl ?_
        refine .p (.eqlI (.t rfl) (.i rfl) (.p (.assign (.t rfl) ?_)))
        refine .nil ?_
        refine .condP (.t rfl) (fun hc40 => ?_) (fun hc40 => ?_)
        · refine .drawZ [[false, false, false], [false, false, true], [false, false, true], [false, false, true], [true, false, true]] [[false, false, true], [false, false, false], [false, false, false], [], [false, false, true], [], [false, false, true], [], [false, false, true], [false, false, true], [false, false, true], [true, false, true], [true, false, true], []] [[], [], [], [8, 9, 10, 11, 12], []] [] 4 (by kernel_rfl) 14 [[], [], [], [(44, 1), (45, 2)], [], [(47, 4)], [], [(49, 6)], [(43, 0), (46, 3), (48, 5), (50, 7)], [(51, 8)], [(42, 9)], [(42, 9)], [(42, 9)], [(52, 10)]] [3, 5, 7, 13] rfl (by kernel_rfl) rfl (by kernel_rfl) rfl (by decide) (by simp) (fun p hp => by cases hp) (by kernel_rfl) rfl ?_
          refine ⟨_, fun H => OpP.ldW ty33 (.t rfl) (Hole.app .z) rfl, ?_⟩
          refine ⟨_, fun H => OpP.move (.t rfl) rfl, ?_⟩
          refine ⟨_, fun H => OpP.ldW ty33 (.t rfl) (Hole.app .z) rfl, ?_⟩
          refine .inl ?_
          refine ⟨_, fun H => OpP.move (.t rfl) rfl, ?_⟩
          refine .inl ?_
          refine ⟨_, fun H => OpP.move (.t rfl) rfl, ?_⟩
          refine .inl ?_
          refine .inl ?_
          refine .inl ?_
          refine .inl ?_
          refine .inl ?_
          refine .inl ?_
          refine .inl ?_
          refine ⟨rfl, ?_⟩
          refine ⟨⟨fun k => List.getD [(true, .none_), (true, .none_), (true, .none_)] k (true, .none_), rfl⟩, fun Ys11 => ?_⟩
          refine OpH.callM hG (Known_deck_c _ _ _ (by assumption) (by have := ha.macs; omega) (by have := ha.boxes; omega)) (Hole.app (Hole.app (.s (.s .z)))) (.cons (.t rfl) (.cons (.t rfl) .nil)) (by rintro _ _ ⟨_, _, _, _, rfl⟩; exact ⟨_, rfl⟩) fun r46 B46 hr46 => ?_
          obtain ⟨t46, d46, hd46, rfl, hB⟩ := hr46
          cases hB
          refine ⟨[], _, rfl, ?_⟩
          refine ⟨⟨fun k => List.getD [(true, .none_), (true, .none_), _] k (true, .none_), rfl⟩, fun Ys11 => ?_⟩
          refine OpH.callM hG (Next_e _ _ _ (by assumption) (by first | omega | (simp; done) | (simp; omega) | (simp at *; omega)) (by first | omega | (simp; done) | (simp; omega) | (simp at *; omega))) (Hole.app (Hole.app (.s (.s .z)))) (.cons (.t rfl) (.cons (.i rfl) .nil)) (by rintro _ _ ⟨_, _, _, _, _, _, rfl⟩; exact ⟨_, rfl⟩) fun r48 B48 hr48 => ?_
          obtain ⟨v48, d48, h480, h481, hd48, rfl, hB⟩ := hr48
          cases hB
          refine ⟨[], _, rfl, ?_⟩
          refine ⟨⟨fun k => List.getD [(true, .none_), (true, .none_), _] k (true, .none_), rfl⟩, fun Ys11 => ?_⟩
          refine OpH.callM hG (Bytes_deck_c _ _ _ (by assumption) (by first | omega | (simp; done) | (simp; omega) | (simp at *; omega)) (by first | omega | (simp; done) | (simp; omega) | (simp at *; omega))) (Hole.app (Hole.app (.s (.s .z)))) (.cons (.t rfl) (.cons (.i rfl) .nil)) (by rintro _ _ ⟨_, _, _, _, _, rfl⟩; exact ⟨_, rfl⟩) fun r50 B50 hr50 => ?_
          obtain ⟨l50, hl50, d50, hd50, rfl, hB⟩ := hr50
          cases hB
          refine ⟨[], _, rfl, ?_⟩
          refine ⟨_, fun H => OpP.call1 hG (rSeal_c _ _ _ _ ha.boxLe) (.cons (.t rfl) (.cons (.t rfl) (.cons (.t rfl) (.cons (.t rfl) .nil)))) rfl, ?_⟩
          refine ⟨_, fun H => OpP.move (.t rfl) rfl, ?_⟩
          refine ⟨_, fun H => OpP.ext3_0 (.t rfl) rfl, ?_⟩
          refine ⟨_, fun H => OpP.ext3_1 (.t rfl) rfl, ?_⟩
          refine ⟨_, fun H => OpP.ext3_2 (.t rfl) rfl, ?_⟩
          refine ⟨⟨fun k => List.getD [(true, .none_), (true, .none_), _] k (true, .none_), rfl⟩, fun Ys11 => ?_⟩
          refine OpH.stW ty33 (.t rfl) (.t rfl) (Hole.app (Hole.app .z)) ?_
          refine ⟨[], _, rfl, ?_⟩
          refine ⟨⟨fun k => List.getD [_, (true, .none_), _] k (true, .none_), rfl⟩, fun ws11 => ?_⟩
          refine ⟨⟨fun k => List.getD [_, (true, .none_), _] k (true, .none_), rfl⟩, fun _ => ?_⟩
          show wpB _ _ _ _ _ _ ((54, _) :: (53, _) :: (52, _) :: (42, _) :: (51, _) :: (50, _) :: (49, _) :: (48, _) :: (47, _) :: (46, _) :: (45, _) :: (44, _) :: (43, _) :: _) _
          refine .nil ?_
          refine .region rfl ?_
          refine .p (.move (.t rfl) (.p (.sub (.t rfl) (.i rfl) (by first | omega | (simp; done) | (simp; omega) | (simp at *; omega)) (by first | omega | (simp; done) | (simp; omega) | (simp at *; omega)) (.p (.assign (.t rfl) ?_)))))
          refine .nil ?_
          refine ⟨(k - 1, _, _), .cons (congrArg (fun q => some (AV.v q)) (by dsimp only; omega)) (.cons rfl (.cons rfl (.cons rfl (.nil _)))), rfl, ?_, by dsimp only; omega⟩
          exact ⟨by dsimp only; omega, by dsimp only; first | exact (ha.key (by omega)).le (by omega) | exact (ha.mac (by omega) (by omega)).le (by omega) | exact (ha.boxed (by omega) (by omega) (by omega) (by omega)).le (by omega) | exact ha.le (by omega), by assumption⟩
        · refine .skip ?_
          refine .region rfl ?_
          refine .p (.move (.t rfl) (.p (.sub (.t rfl) (.i rfl) (by first | omega | (simp; done) | (simp; omega) | (simp at *; omega)) (by first | omega | (simp; done) | (simp; omega) | (simp at *; omega)) (.p (.assign (.t rfl) ?_)))))
          refine .nil ?_
          refine ⟨(k - 1, _, _), .cons (congrArg (fun q => some (AV.v q)) (by dsimp only; omega)) (.cons rfl (.cons rfl (.cons rfl (.nil _)))), rfl, ?_, by dsimp only; omega⟩
          exact ⟨by dsimp only; omega, by dsimp only; first | exact (ha.key (by omega)).le (by omega) | exact (ha.mac (by omega) (by omega)).le (by omega) | exact (ha.boxed (by omega) (by omega) (by omega) (by omega)).le (by omega) | exact ha.le (by omega), by assumption⟩
  · refine .exit ?_
    refine .seq ?_
    refine .region rfl ?_
    refine .p (.ldW ty33 (.t rfl) .z (.n (.stW ty33 (.t rfl) (.t rfl) (.s .z) ?_)))
    refine .nil ?_
    refine .ret ?_
    refine ⟨_, .r1 rfl (.cell ty33 rfl (.s .z)), ?_⟩
    refine ⟨_, .cons (.s (.s .z)) (.nil), ?_⟩
    exact ⟨a, _, ha.le (by omega), he, rfl, rfl⟩
end Go.Proofs.YtkjpkdpnlioffaaDoor
set_option maxRecDepth 1000000
set_option linter.unusedVariables false
set_option linter.unusedSimpArgs false
namespace Go.Proofs.YtkjpkdpnlioffaaDoor
open Go.Fl Go.Ab Go.Mac Go.Sha
abbrev tag1 : Tag := (Lens.idx 0 (by decide)).set 1 default
theorem deckNew_ok (l : List Int) : DeckOk (⟨l, 0⟩ : G_macaroonmade_Deck) := Int.le_refl 0
theorem Range_e (w : Value) (d : G_macaroonmade_Deck) (lo hi : Int) (hd : DeckOk d) (h : lo ≤ hi) (h0 : -1000000000000000000 ≤ lo) (h1 : hi ≤ 1000000000000000000) :
    FunH gl Tryd.prog 14 [dk w, .v lo, .v hi] [.ob w d] (fun r Hs => ∃ v : Int, ∃ d', lo ≤ v ∧ v ≤ hi ∧ DeckOk d' ∧ r = .v v ∧ Hs = [.ob w d']) := by
  refine FunH.introS Tryd.func14 rfl (by kernel_rfl) 15 rfl rfl _ rfl _ rfl fun C hC hG => ?_
  refine .seq ?_
  refine .region rfl ?_
  refine .p (.assign (.i rfl) ?_)
  refine .nil ?_
  refine .seq ?_
  refine .region rfl ?_
  refine .p (.move (.t rfl) (.p (.move (.t rfl) (.p (.move (.t rfl) (.p (.move (.t rfl) (.p (.sub (.t rfl) (.t rfl) (by first | omega | (simp; done) | (simp; omega) | (simp at *; omega)) (by first | omega | (simp; done) | (simp; omega) | (simp at *; omega)) (.p (.add (.t rfl) (.i rfl) (by first | omega | (simp; done) | (simp; omega) | (simp at *; omega)) (by first | omega | (simp; done) | (simp; omega) | (simp at *; omega)) ?_)))))))))))
  refine .h (.callM hG (Next_e _ _ _ (by assumption) (by first | omega | (simp; done) | (simp; omega) | (simp at *; omega)) (by first | omega | (simp; done) | (simp; omega) | (simp at *; omega))) .z (.cons (.t rfl) (.cons (.t rfl) .nil)) (by rintro _ _ ⟨_, _, _, _, _, _, rfl⟩; exact ⟨_, rfl⟩) fun r13 B13 hr13 => ?_)
  obtain ⟨v13, d13, h013, h113, hd13, rfl, hB⟩ := hr13
  cases hB
  refine .p (.add (.t rfl) (.t rfl) (by first | omega | (simp; done) | (simp; omega) | (simp at *; omega)) (by first | omega | (simp; done) | (simp; omega) | (simp at *; omega)) (.p (.assign (.t rfl) ?_)))
  refine .nil ?_
  refine .ret ?_
  refine ⟨_, .r1 rfl (.tmp rfl), ?_⟩
  refine ⟨_, .cons .z (.nil), ?_⟩
  exact ⟨_, _, by omega, by omega, by assumption, rfl, rfl⟩
end Go.Proofs.YtkjpkdpnlioffaaDoor
set_option maxRecDepth 1000000
set_option linter.unusedVariables false
set_option linter.unusedSimpArgs false
namespace Go.Proofs.YtkjpkdpnlioffaaDoor
open Go.Fl Go.Ab Go.Mac Go.Sha
structure Made (a : Alg) (n : Nat) (k : Tag) (m : List UInt8) (b : Alg) (t : Tag) : Prop where
  mac : algMac a k m = (b, t, 0)
  again : algMac b k m = (b, t, 0)
  look : algLook b k m = (t, true)
  len : b.Macs.length ≤ a.Macs.length + 1
  len2 : a.Macs.length ≤ b.Macs.length
  old : ∀ i (h : i < a.Macs.length), algLook b a.Macs[i].Key a.Macs[i].Message = (a.Macs[i].Tag, true)
  ok : AlgOk b (n + 1)
theorem AlgOk.lookAt {a : Alg} {n : Nat} (h : AlgOk a n) (i : Nat) (hi : i < a.Macs.length) : algLook a a.Macs[i].Key a.Macs[i].Message = (a.Macs[i].Tag, true) := by
  obtain ⟨h1, h2⟩ := h.tag i hi
  unfold algLook
  cases hf : a.Free with
  | true =>
    rw [if_pos rfl]
    unfold algEntry algFind
    rw [h.uniq i hi]
  | false =>
    rw [if_neg (by decide), if_neg (by omega), h2, hf]; rfl
theorem AlgOk.made {a : Alg} {n : Nat} (h : AlgOk a n) (hn : n < 60000) {k : Tag} {m : List UInt8} (hm : m.length ≤ 1000) : ∃ b t, Made a n k m b t := by
  have h1 := h.macs
  have hok := h.mac (by omega) (k := k) hm
  cases hf : algFind a k m with
  | some x =>
    have e : algMac a k m = (a, x.Tag, 0) := by unfold algMac; rw [if_neg (by omega), hf]
    rw [e] at hok
    obtain ⟨i, hi, rfl⟩ := List.getElem_of_mem (List.mem_of_find?_eq_some hf)
    have hx := (macEq_iff k m _).1 (List.find?_some hf)
    have hl := h.lookAt i hi
    rw [hx.1, hx.2] at hl
    exact ⟨a, _, e, e, hl, by omega, by omega, fun j hj => h.lookAt j hj, hok⟩
  | none =>
    have e := algMac_new (a := a) (k := k) (m := m) (by omega) hf (by omega)
    rw [e] at hok
    have hi : a.Macs.length < (a.Macs ++ [(⟨k, m, newTag a k m⟩ : G_api_Mac)]).length := by simp
    have hl := hok.lookAt a.Macs.length hi
    have hu := hok.uniq a.Macs.length hi
    simp only [List.getElem_concat_length] at hl hu
    refine ⟨_, _, e, ?_, hl, by simp, by simp, fun j hj => ?_, hok⟩
    · unfold algMac algFind
      rw [if_neg (by omega), hu]
    · have hj2 : j < (a.Macs ++ [(⟨k, m, newTag a k m⟩ : G_api_Mac)]).length := by simp; omega
      have := hok.lookAt j hj2
      simp only [List.getElem_append_left hj] at this
      exact this
end Go.Proofs.YtkjpkdpnlioffaaDoor
set_option maxRecDepth 1000000
set_option linter.unusedVariables false
set_option linter.unusedSimpArgs false
namespace Go.Proofs.YtkjpkdpnlioffaaDoor
open Go.Fl Go.Ab Go.Mac Go.Sha
abbrev it24 : Item := ⟨1, 2, 2, default, [], default⟩
def aw24 : Alg := ⟨true, default, 0, [⟨tag1, itemBytes it24, symTag 109 1⟩], []⟩
theorem it24_ok : itemErr it24 = 0 := by decide
theorem it24_len : (itemBytes it24).length ≤ 1096 := itemBytes_len (itemOk it24_ok)
theorem aw24_1 : algSign ⟨true, default, 0, [], []⟩ tag1 it24 = (aw24, ⟨1, 2, 2, default, [], symTag 109 1⟩, 0) := by
  unfold algSign
  rw [it24_ok, if_neg (by decide), algMac_new (by have := it24_len; omega) rfl (by decide)]
  rfl
theorem sign_as {a b : Alg} {k : Tag} {x y : Item} {e : Int} (hx : x.Box.length ≤ 1000000) (hl : a.Macs.length ≤ 1000000) (h : algSign a k x = (b, y, e)) : FunA gl Tryd.prog 41 [.v a, .v k, .v x] (fun r => r = .t3 (.v b) (.v y) (.v e)) :=
  (sign_c a k x hx hl).mono fun r hr => by rw [hr, h]
theorem itemCheck_look {a : Alg} {k t : Tag} {x : Item} {ok : Bool} (h : itemErr x = 0) (hl : algLook a k (itemBytes x) = (t, ok)) : itemCheck a k x = if ok = false ∨ t ≠ x.Tag then 19 else 0 := by
  unfold itemCheck; rw [h, if_neg (by decide), hl]
theorem aw24_2 : itemCheck aw24 tag1 ⟨1, 2, 2, default, [], symTag 109 1⟩ = 0 := by
  rw [itemCheck_look (t := symTag 109 1) (ok := true) (by decide) (by
    have e : itemBytes ⟨1, 2, 2, default, [], symTag 109 1⟩ = itemBytes it24 := rfl
    rw [e]; simp [algLook, algEntry, algFind, aw24, macEq])]
  simp
theorem aw24_ne (y : Item) (h1 : y.Place = 2) (h2 : y.Kind = 2) (h3 : y.Number = 2) : itemBytes it24 ≠ itemBytes y := by
  unfold itemBytes
  rw [h1, h2, h3]
  simp only [it24]
  rw [show (1 : Int).toNat = 1 by rfl, show (2 : Int).toNat = 2 by rfl, numL_lt (n := 1) (by decide), numL_lt (n := 2) (by decide)]
  intro h
  have h4 := congrArg (fun q => q[4]?) h
  simp [itemStr] at h4
theorem aw24_3 : itemCheck aw24 tag1 ⟨2, 2, 2, default, [], symTag 109 1⟩ = 19 := by
  rw [itemCheck_look (t := default) (ok := false) (by decide) (by
    have e := aw24_ne ⟨2, 2, 2, default, [], symTag 109 1⟩ rfl rfl rfl
    simp [algLook, algEntry, algFind, aw24, macEq, e])]
  simp
theorem awake24_c : FunA gl Tryd.prog 17 [] (fun r => r = .v true) := by
  refine FunA.intro Tryd.func17 rfl (by kernel_rfl) 31 rfl rfl _ rfl fun C hC hG => ?_
  refine .seq ?_
  refine .region rfl ?_
  refine .p (.assign .b ?_)
  refine .nil ?_
  refine .seq ?_
  refine .region rfl ?_
  refine .p (.bS1 G_api_Algebra.l0 rfl ty33 fo33 (fun c0 => (⟨c0, default, 0, [], []⟩ : G_api_Algebra)) (fun _ => rfl) rfl rfl .b (.p (.buildA _ ty24 ar24 (.cons (Lens.idx 0 (by decide)) _ rfl (.u8 1 rfl) .nil) rfl (.p (.bS3 G_api_Item.l0 G_api_Item.l1 G_api_Item.l2 rfl ty27 fo27 (fun c0 c1 c2 => (⟨c0, c1, c2, default, [], default⟩ : G_api_Item)) (fun _ _ _ => rfl) rfl rfl rfl rfl (.i rfl) (.i rfl) (.i rfl) (.p (.call1 hG (sign_as (by decide) (by decide) aw24_1) (.cons (.t rfl) (.cons (.t rfl) (.cons (.t rfl) .nil))) (.p (.move (.t rfl) (.p (.ext3_0 (.t rfl) ?_)))))))))))
  refine .p (.ext3_1 (.t rfl) (.p (.ext3_2 (.t rfl) (.h (.alloc ty33 fun b1 => .h (.alloc ty27 fun b2 => .n (.stW ty33 (.t rfl) (.t rfl) (.s .z) (.n (.stW ty27 (.t rfl) (.t rfl) .z ?_)))))))))
  refine .p (.assign (.t rfl) ?_)
  refine .nil ?_
  refine .seq ?_
  refine .region rfl ?_
  refine .p (.ldW ty33 (.t rfl) (.s .z) (.p (.buildA _ ty24 ar24 (.cons (Lens.idx 0 (by decide)) _ rfl (.u8 1 rfl) .nil) rfl (.p (.ldW ty27 (.t rfl) .z (.p (.call1 hG (itemCheckP_c _ _ _ (by decide)) (.cons (.t rfl) (.cons (.t rfl) (.cons (.t rfl) .nil))) (.p (.assign (.t rfl) ?_)))))))))
  refine .nil ?_
  refine .seq ?_
  refine .region rfl ?_
  refine .p (.fldW G_api_Item.l0 fd27_0 rfl (.t rfl) (.n (.stF (fun y x => { x with Place := y }) ty3 (.t rfl) (.i rfl) .z (fun _ _ => rfl) ?_)))
  refine .nil ?_
  refine .seq ?_
  refine .region rfl ?_
  refine .p (.move (.t rfl) (.p (.eqlI (.t rfl) (.i rfl) (.p (.move (.t rfl) ?_)))))
  refine .go 20 rfl (.t rfl) (fun hg21 => .move (.t rfl) rfl) ?_
  refine .go 20 rfl (.t rfl) (fun hg22 => .eqlI (.o rfl (beq_iff_eq.2 hg22)) (.i rfl) rfl) ?_
  refine .p (.pickAnd (.t rfl) (fun hp => (.o rfl (beq_iff_eq.2 hp))) (.p (.move (.t rfl) ?_)))
  refine .go 24 rfl (.t rfl) (fun hg25 => .ldW ty33 (.t rfl) (.s .z) rfl) ?_
  refine .go 24 rfl (.t rfl) (fun hg26 => .buildA _ ty24 ar24 (.cons (Lens.idx 0 (by decide)) _ rfl (.u8 1 rfl) .nil) rfl rfl) ?_
  refine .go 24 rfl (.t rfl) (fun hg27 => .ldW ty27 (.t rfl) .z rfl) ?_
  refine .go 24 rfl (.t rfl) (fun hg28 => .call1 hG (itemCheckP_c _ _ _ (by decide)) (.cons (.o rfl (beq_iff_eq.2 hg28)) (.cons (.o rfl (beq_iff_eq.2 hg28)) (.cons (.o rfl (beq_iff_eq.2 hg28)) .nil))) rfl) ?_
  refine .go 24 rfl (.t rfl) (fun hg29 => .eqlI (.o rfl (beq_iff_eq.2 hg29)) (.i rfl) rfl) ?_
  refine .p (.pickAnd (.t rfl) (fun hp => (.o rfl (beq_iff_eq.2 hp))) (.p (.assign (.t rfl) ?_)))
  refine .nil ?_
  refine .ret ?_
  refine ⟨_, .r1 rfl (.tmp rfl), ?_⟩
  dsimp only; rw [aw24_2, aw24_3]; rfl
theorem sameItem_self (x : Item) : sameItem x x = true := by simp [sameItem]
structure Signed (a : Alg) (n : Nat) (k : Tag) (x : Item) (b : Alg) (y : Item) : Prop where
  sign : algSign a k x = (b, y, 0)
  ok : AlgOk b (n + 1)
  check : itemCheck b k y = 0
  box : y.Box = x.Box
theorem AlgOk.signed {a : Alg} {n : Nat} (h : AlgOk a n) (hn : n < 60000) (k : Tag) {x : Item} (hx : itemErr x = 0) (hb : x.Box.length ≤ 200) : ∃ b y, Signed a n k x b y := by
  have hm : (itemBytes x).length ≤ 1000 := by
    have h1 := itemOk hx
    have h2 := numL_le7 (n := x.Place.toNat) (by have := h1.place; omega)
    have h3 := numL_le7 (n := x.Kind.toNat) (by have := h1.kind; omega)
    have h4 := numL_le7 (n := x.Number.toNat) (by have := h1.num; omega)
    have h5 := numL_le7 (n := x.Box.length) (by omega)
    simp [itemBytes, itemStr, Arr.len]; omega
  obtain ⟨b, t, hb2⟩ := h.made hn (k := k) hm
  have hok := h.mac (by omega) (k := k) hm
  rw [hb2.mac] at hok
  have e : itemErr { x with Tag := t } = 0 := hx
  refine ⟨b, { x with Tag := t }, by unfold algSign; rw [hx, if_neg (by decide), hb2.mac]; rfl, hok, ?_, rfl⟩
  rw [itemCheck_look e (show algLook b k (itemBytes { x with Tag := t }) = (t, true) from hb2.look)]
  simp
end Go.Proofs.YtkjpkdpnlioffaaDoor
set_option linter.unusedVariables false
namespace Go.Ab
open Go.Fl Go.RowKit
open Rep (rep)
def EqT (P : Program) (T : TypeId) (k : Nat) (α : Type) [Rep α] [DecidableEq α] : Prop :=
  ∀ (d : Nat) (I : Im) (x y : α) (cs ds : List Value) (w : World), rep I x cs → rep I y ds → (Op.equalIn (d + k) T (asV (Rep.agg α) cs) (asV (Rep.agg α) ds)).run P w = .ok (decide (x = y)) w
variable {P : Program} {T E : TypeId}
theorem EqT.i64 (hT : P.underlying T = some (.int .i64)) : EqT P T 1 Int := fun d I x y cs ds w hx hy => by
  obtain ⟨rfl, _⟩ := hx
  obtain ⟨rfl, _⟩ := hy
  exact equalIn_int w d hT
theorem EqT.arr8 {n : Nat} (hT : P.underlying T = some (.array n E)) (hs : SizeIs P E 1) (hE : P.underlying E = some (.int .u8)) : EqT P T 2 (Arr n UInt8) := fun d I x y cs ds w hx hy => by
  obtain rfl := repL_u8.1 hx
  obtain rfl := repL_u8.1 hy
  unfold SizeIs at hs
  cases hi : P.info? E with
  | none => simp [hi] at hs
  | some inf =>
    have hc : P.cellsOf E = 1 := by simp [hi] at hs; simp [Program.cellsOf, hi, hs]
    have e1 : ∀ l : List UInt8, bytesV l = (l.map fun c => (c.toNat : Int)).map (Value.int .u8) := fun l => by simp [bytesV, Fl.u8]
    have h1 := run_equalIn_array (P := P) w (d + 1) (bytesV x.l).toArray (bytesV y.l).toArray hT hi
    have h2 : ∀ (ags bs : List Int), ags.length = n → bs.length = n → (Op.eqItems (d + 1) E 1 (ags.map (Value.int .u8)).toArray (bs.map (Value.int .u8)).toArray (List.range n)).run P w = .ok (decide (ags = bs)) w := fun ags bs ha hb => by
      rw [← ha, run_eqItems_ints w d hE ags bs (by omega) _ (fun i hi => List.mem_range.1 hi), all_range_eq ags bs (by omega)]
    rw [hc, e1, e1, h2 _ _ (by simp) (by simp)] at h1
    refine (show (Op.equalIn (d + 2) T (.agg (bytesV x.l).toArray) (.agg (bytesV y.l).toArray)).run P w = _ from ?_)
    rw [e1, e1, h1]
    congr 1
    rw [decide_eq_decide]
    refine (eql_iff_map _ (fun a b h => UInt8.toNat_inj.1 (Int.ofNat_inj.1 h)) x.l y.l).trans ?_
    exact ⟨Arr.ext, fun h => by rw [h]⟩
inductive EqF (P : Program) (k : Nat) : List Field → Nat → (β : Type) → (s : Rep β) → DecidableEq β → Prop
  | nil {off : Nat} : EqF P k [] off Unit inferInstance inferInstance
  | cons {f : Field} {fs : List Field} {off : Nat} {α β : Type} {r : Rep α} {s : Rep β} {d1 : DecidableEq α} {d2 : DecidableEq β} {dd : TypeDesc} (h1 : f.offset = off) (hn : (f.name ≠ "_") = true) (hT : P.underlying f.type = some dd) (ha : isRow dd = Rep.agg α) (hz : SizeIs P f.type (Rep.size α))
      (h2 : EqT P f.type k α) (t : EqF P k fs (off + Rep.size α) β s d2) : EqF P k (f :: fs) off (α × β) inferInstance inferInstance
theorem EqF.run {k : Nat} {fs : List Field} {off : Nat} {β : Type} {s : Rep β} {dec : DecidableEq β} (h : EqF P k fs off β s dec) : ∀ (d : Nat) (I : Im) (x y : β) (cs ds : List Value) (w : World), rep I x (cs.drop off) → rep I y (ds.drop off) →
    (Op.eqFields (d + k) cs.toArray ds.toArray fs).run P w = .ok (decide (x = y)) w := by
  induction h with
  | nil => intro d I x y cs ds w _ _; rfl
  | @cons f fs off α β r s d1 d2 dd h1 hn hT ha hz h2 t ih =>
    intro d I x y cs ds w hx hy
    obtain ⟨c1, r1, e1, q1, q2⟩ := hx
    obtain ⟨c2, r2, e2, q3, q4⟩ := hy
    have hp : ∀ (zs c rr : List Value) (a : α), zs.drop off = c ++ rr → rep I a c → (part f.type zs.toArray f.offset).run P w = .ok (asV (Rep.agg α) c) w := fun zs c rr a e hc => by
      have hl := Rep.len hc
      have hseg : segGet zs off (Rep.size α) = c := by rw [segGet, e, ← hl]; simp
      obtain ⟨g1, g2⟩ := part_run (P := P) (cs := zs) (off := f.offset) hT hz w
      rw [h1] at g1 g2 ⊢
      cases hag : Rep.agg α with
      | true =>
        rw [g1 (by rw [ha, hag]), hseg]; rfl
      | false =>
        have hone : c.length = 1 := by rw [hl]; exact Rep.one hag
        cases c with
        | nil => simp at hone
        | cons v c =>
          have : c = [] := by simpa using hone
          subst this
          refine g2 v (by rw [ha, hag]) ?_
          have : (zs.drop off)[0]? = some v := by rw [e]; rfl
          simpa using this
    have hdrop : ∀ (zs c rr : List Value) (a : α), zs.drop off = c ++ rr → rep I a c → zs.drop (off + Rep.size α) = rr := fun zs c rr a e hc => by
      rw [← List.drop_drop, e, ← Rep.len hc]; simp
    have hn' : f.name ≠ "_" := by simpa using hn
    simp only [Op.eqFields, if_pos hn', Sem.run_bind, hp cs c1 r1 x.1 e1 q1, hp ds c2 r2 y.1 e2 q3, Result.andThen_ok, h2 d I x.1 y.1 c1 c2 w q1 q3]
    by_cases e : x.1 = y.1
    · simp only [e, decide_true, Bool.not_true, Bool.false_eq_true, if_false]
      rw [ih d I x.2 y.2 cs ds w (by rw [hdrop cs c1 r1 x.1 e1 q1]; exact q2) (by rw [hdrop ds c2 r2 y.1 e2 q3]; exact q4)]
      congr 1
      rw [decide_eq_decide]
      exact ⟨fun h => Prod.ext e h, fun h => by rw [h]⟩
    · simp only [e, decide_false, Bool.not_false, if_true, Sem.run_pure]
      congr 1
      symm
      rw [decide_eq_false_iff_not]
      exact fun h => e (by rw [h])
theorem EqT.up {α : Type} [Rep α] [DecidableEq α] {k : Nat} (j : Nat) (h : EqT P T k α) : EqT P T (k + j) α := fun d I x y cs ds w hx hy => by
  have := h (d + j) I x y cs ds w hx hy
  rwa [show d + j + k = d + (k + j) by omega] at this
theorem EqT.struct {S β : Type} [s : Rep β] [dS : DecidableEq S] {dec : DecidableEq β} {k : Nat} {fs : Array Field} (f : S → β) (hf : ∀ a b, f a = f b → a = b) (hT0 : P.underlying T = some (.struct fs)) (hp : P.stoodInHeld T = false) (h : EqF P k fs.toList 0 β s dec) : @EqT P T (k + 1) S (Rep.via f) dS := by
  letI : Rep S := Rep.via f
  intro d I x y cs ds w hx hy
  have hfs : P.fieldsOf T = fs := by unfold Program.fieldsOf; rw [hT0]
  have hT : P.underlying T = some (.struct (P.fieldsOf T)) := by rw [hfs]; exact hT0
  have hx' : rep I (f x) cs := hx
  have hy' : rep I (f y) ds := hy
  refine (run_equalIn_struct w (d + k) T cs.toArray ds.toArray hT hp).trans ?_
  rw [hfs, h.run d I (f x) (f y) cs ds w (by simpa using hx') (by simpa using hy')]
  congr 1
  rw [decide_eq_decide]
  exact ⟨hf _ _, fun h => by rw [h]⟩
variable {N : Nat} {C : Ctx} {σ : AEnv} {H : AHeap} {K : AV → Prop} {d : Option Nat} {ty : TypeId} {ps : String} {af : Array Edge} {g : Option (Nat × Bool)} {x y : Operand} {T2 : TypeId}
theorem OpP.eqlT {α : Type} {r : Rep α} {dd : DecidableEq α} {k0 : Nat} {a b : α} (he : EqT P T k0 α) (hk : Nat.ble k0 10000 = true) (hag : Rep.agg α = true) (hg : P.eqGuardType P.depth T = false) (hx : EvA C σ H x (.v a)) (hy : EvA C σ H y (.v b)) (k : K (.v (decide (a = b)))) :
    OpP P N C ⟨d, .binOp .eql T x y T2, ty, ps, af, g⟩ σ H K :=
  .vk k (fun ρ I L hst => .mk ⟨[.bool (decide (a = b))], rfl, rfl⟩ fun ac w ha hm => by
    obtain ⟨u, h1, cs, h2, rfl⟩ := hx ρ I L hst
    obtain ⟨v, h3, ds, h4, rfl⟩ := hy ρ I L hst
    have hke : 10000 - k0 + k0 = 10000 := by have := Nat.le_of_ble_eq_true hk; omega
    have he' := he (10000 - k0) I a b cs ds w h2 h4
    rw [hke] at he'
    rw [hag] at he' h1 h3
    have h5 := run_eql_struct (P := P) w T cs.toArray ds.toArray
    rw [show (Op.equalIn 10000 T (.agg cs.toArray) (.agg ds.toArray)).run P w = _ from he'] at h5
    have h1' : ev ρ x = some (.agg cs.toArray) := h1
    have h3' : ev ρ y = some (.agg ds.toArray) := h3
    simp only [execOp, ha.ev h1', ha.ev h3', Sem.run_bind, guard_agg w hg, h5, Result.andThen_ok, Sem.run_pure]
    rfl)
theorem OpP.neqT {α : Type} {r : Rep α} {dd : DecidableEq α} {k0 : Nat} {a b : α} (he : EqT P T k0 α) (hk : Nat.ble k0 10000 = true) (hag : Rep.agg α = true) (hg : P.eqGuardType P.depth T = false) (hx : EvA C σ H x (.v a)) (hy : EvA C σ H y (.v b)) (k : K (.v (decide (a ≠ b)))) :
    OpP P N C ⟨d, .binOp .neq T x y T2, ty, ps, af, g⟩ σ H K :=
  .vk k (fun ρ I L hst => .mk ⟨[.bool (decide (a ≠ b))], rfl, rfl⟩ fun ac w ha hm => by
    obtain ⟨u, h1, cs, h2, rfl⟩ := hx ρ I L hst
    obtain ⟨v, h3, ds, h4, rfl⟩ := hy ρ I L hst
    have hke : 10000 - k0 + k0 = 10000 := by have := Nat.le_of_ble_eq_true hk; omega
    have he' := he (10000 - k0) I a b cs ds w h2 h4
    rw [hke] at he'
    rw [hag] at he' h1 h3
    have h5 := run_neq_struct (P := P) w T cs.toArray ds.toArray
    rw [show (Op.equalIn 10000 T (.agg cs.toArray) (.agg ds.toArray)).run P w = _ from he'] at h5
    have h1' : ev ρ x = some (.agg cs.toArray) := h1
    have h3' : ev ρ y = some (.agg ds.toArray) := h3
    simp only [execOp, ha.ev h1', ha.ev h3', Sem.run_bind, guard_agg w hg, h5, Result.andThen_ok, Sem.run_pure]
    by_cases e : a = b <;> simp [e, asV, Rep.agg])
end Go.Ab
set_option maxRecDepth 1000000
set_option linter.unusedSimpArgs false
namespace Go.Proofs.YtkjpkdpnlioffaaDoor
open Go.Ab Go.Mac
theorem eqT38 : EqT Tryd.prog 38 3 G_api_Epoch := .struct G_api_Epoch.f (fun a b h => by cases a; cases b; simpa [G_api_Epoch.f] using h) Tryd.underlying38 (by kernel_rfl) (.cons rfl (by simp) Tryd.underlying3 rfl (.of (by kernel_rfl)) (.up 1 (.i64 Tryd.underlying3)) (.cons rfl (by simp) Tryd.underlying24 rfl (.of (by kernel_rfl)) (.arr8 Tryd.underlying24 sz5 Tryd.underlying5) .nil))
end Go.Proofs.YtkjpkdpnlioffaaDoor
set_option maxRecDepth 1000000
set_option linter.unusedVariables false
set_option linter.unusedSimpArgs false
namespace Go.Proofs.YtkjpkdpnlioffaaDoor
open Go.Fl Go.Ab Go.Mac Go.Sha
abbrev Epoch := G_api_Epoch
def epItem (place : Int) (e : Epoch) (b : List UInt8) : Item := ⟨place, 1, e.Number, default, b, default⟩
def epBad (place : Int) (e : Epoch) : Bool := decide (place < 1) || decide (4096 < place) || decide (e.Number < 1) || decide (1000 < e.Number)
def algEpoch (a : Alg) (k : Tag) (place : Int) (e : Epoch) : Alg × Item × Int :=
  if epBad place e then (default, default, 1) else
  if (algSeal a k place e.Key.l).2.2 ≠ 0 then (default, default, (algSeal a k place e.Key.l).2.2) else algSign (algSeal a k place e.Key.l).1 k (epItem place e (algSeal a k place e.Key.l).2.1)
def tagOf (l : List UInt8) : Tag := if h : l.length = 32 then ⟨l, h⟩ else default
def itemEpoch (a : Alg) (k : Tag) (x : Item) : Epoch × Int :=
  if x.Kind ≠ 1 then (default, 6) else if (algOpen a k x.Box).2 ≠ 0 then (default, (algOpen a k x.Box).2) else
  if (algOpen a k x.Box).1.length ≠ 32 then (default, 5) else (⟨x.Number, tagOf (algOpen a k x.Box).1⟩, 0)
theorem tagOf_eq {l : List UInt8} (h : l.length = 32) : tagOf l = ⟨l, h⟩ := by unfold tagOf; rw [dif_pos h]
theorem arrCopy_all {n : Nat} (a : Arr n UInt8) {l : List UInt8} (h : l.length = n) : arrCopy a l = ⟨l, h⟩ := by
  apply Arr.ext
  show l.take n ++ a.l.drop l.length = l
  rw [List.take_of_length_le (by omega), List.drop_eq_nil_of_le (by rw [Arr.len]; omega), List.append_nil]
theorem rEpochItem_c (a : Alg) (k : Tag) (place : Int) (e : Epoch) (hb : ∀ x ∈ a.Boxes, x.Box.length ≤ 1000000) : FunA gl Tryd.prog 9 [.v a, .v k, .v place, .v e] (fun r => r = .t3 (.v (algEpoch a k place e).1) (.v (algEpoch a k place e).2.1) (.v (algEpoch a k place e).2.2)) := by
  refine FunA.intro Tryd.func9 rfl (by kernel_rfl) 57 rfl rfl _ rfl fun C hC hG => ?_
  refine .seq ?_
  refine .region rfl ?_
  refine .h (.box (.t rfl) fun b4 => .h (.box (.t rfl) fun b5 => .h (.box (.t rfl) fun b7 => .h (.alloc ty33 fun b8 => .h (.alloc ty27 fun b9 => .p (.assign (.i rfl) ?_))))))
  refine .nil ?_
  refine .seq ?_
  refine .seq ?_
  refine .frzOb hC (.s (.s .z)) ?_
  refine .asP 7 rfl (.s (.s .z)) ?_
  refine .region rfl ?_
  refine .p (.move (.t rfl) (.p (.lss (.t rfl) (.i rfl) (.p (.move (.t rfl) ?_)))))
  refine .go 15 rfl (.t rfl) (fun hg16 => .move (.t rfl) rfl) ?_
  refine .go 15 rfl (.t rfl) (fun hg17 => .gtr (.o rfl (beq_iff_eq.2 hg17)) (.i rfl) rfl) ?_
  refine .p (.pickOr (.t rfl) (fun hp => (.o rfl (beq_iff_eq.2 hp))) (.p (.move (.t rfl) ?_)))
  refine .go 19 rfl (.t rfl) (fun hg20 => .fldPF G_api_Epoch.l0 (fun x => x.Number) fd38_0 rfl (fun _ => rfl) (.t rfl) rfl) ?_
  refine .go 19 rfl (.t rfl) (fun hg21 => .ldP ty3 (.o rfl (beq_iff_eq.2 hg21)) rfl) ?_
  refine .go 19 rfl (.t rfl) (fun hg22 => .lss (.o rfl (beq_iff_eq.2 hg22)) (.i rfl) rfl) ?_
  refine .p (.pickOr (.t rfl) (fun hp => (.o rfl (beq_iff_eq.2 hp))) (.p (.move (.t rfl) ?_)))
  refine .go 24 rfl (.t rfl) (fun hg25 => .fldPF G_api_Epoch.l0 (fun x => x.Number) fd38_0 rfl (fun _ => rfl) (.t rfl) rfl) ?_
  refine .go 24 rfl (.t rfl) (fun hg26 => .ldP ty3 (.o rfl (beq_iff_eq.2 hg26)) rfl) ?_
  refine .go 24 rfl (.t rfl) (fun hg27 => .gtr (.o rfl (beq_iff_eq.2 hg27)) (.i rfl) rfl) ?_
  refine .p (.pickOr (.t rfl) (fun hp => (.o rfl (beq_iff_eq.2 hp))) ?_)
  refine .nil ?_
  refine .cond (.t rfl) (fun hc28 => ?_) (fun hc28 => ?_)
  · refine .seq ?_
    refine .region rfl ?_
    refine .p (.bS0 (α := G_api_Algebra) rfl ty33 fo33 (.p (.bS0 (α := G_api_Item) rfl ty27 fo27 (.n (.stW ty33 (.t rfl) (.t rfl) (.s .z) (.n (.stW ty27 (.t rfl) (.t rfl) .z (.p (.assign (.i rfl) ?_)))))))))
    refine .nil ?_
    refine .ret ?_
    refine ⟨_, .r3 rfl (.cell ty33 rfl (.s .z)) (.cell ty27 rfl .z) (.tmp rfl), ?_⟩
    have h : epBad place e = true := hc28
    unfold algEpoch; rw [if_pos h]
  · refine .skip ?_
    refine .seq ?_
    refine .drawZ [[false, false, false, false, false], [false, false, false, false, true]] [[false, false, false, false, false], [false, false, false, false, false], [false, false, false, false, false], [false, false, false, false, false], [false, false, false, false, false], [false, false, false, false, false], [false, false, false, false, false], [false, false, false, false, false], [false, false, false, false, true], [false, false, false, false, true], [], [false, false, false, false, true], [false, false, false, false, true]] [] [] 1 (by kernel_rfl) 13 [[], [], [], [], [(35, 3)], [(32, 0), (33, 1), (34, 2), (36, 4)], [(37, 5)], [(31, 6)], [(31, 6)], [(31, 6)], [(38, 7)], [(39, 8)], [(40, 9)]] [10] rfl (by kernel_rfl) rfl (by kernel_rfl) rfl (by decide) (by simp) (fun p hp => by cases hp) (by kernel_rfl) rfl ?_
    refine ⟨_, fun H => OpP.ldW ty33 (.t rfl) (Hole.app (.s (.s (.s (.s .z))))) rfl, ?_⟩
    refine ⟨_, fun H => OpP.ldW ty24 (.t rfl) (Hole.app (.s (.s (.s .z)))) rfl, ?_⟩
    refine ⟨_, fun H => OpP.move (.t rfl) rfl, ?_⟩
    refine ⟨_, fun H => OpP.fldPF G_api_Epoch.l1 (fun x => x.Key) fd38_1 rfl (fun _ => rfl) (.t rfl) rfl, ?_⟩
    refine ⟨_, fun H => OpP.slArrP (by decide) ar24 (.t rfl) rfl, ?_⟩
    refine ⟨_, fun H => OpP.call1 hG (rSeal_c _ _ _ _ hb) (.cons (.t rfl) (.cons (.t rfl) (.cons (.t rfl) (.cons (.t rfl) .nil)))) rfl, ?_⟩
    refine ⟨_, fun H => OpP.move (.t rfl) rfl, ?_⟩
    refine ⟨_, fun H => OpP.ext3_0 (.t rfl) rfl, ?_⟩
    refine ⟨_, fun H => OpP.ext3_1 (.t rfl) rfl, ?_⟩
    refine ⟨_, fun H => OpP.ext3_2 (.t rfl) rfl, ?_⟩
    refine .inl ?_
    refine ⟨_, fun H => OpP.assign (.t rfl) rfl, ?_⟩
    refine ⟨_, fun H => OpP.assign (.t rfl) rfl, ?_⟩
    refine ⟨rfl, ?_⟩
    refine ⟨⟨fun k => List.getD [(true, .none_), (true, .none_), (true, .none_), (true, .none_), (true, .none_)] k (true, .none_), rfl⟩, fun Ys3 => ?_⟩
    refine OpH.stW ty33 (.t rfl) (.t rfl) (Hole.app (Hole.app (.s (.s (.s (.s .z)))))) ?_
    refine ⟨[], _, rfl, ?_⟩
    refine ⟨⟨fun k => List.getD [(true, .none_), (true, .none_), (true, .none_), (true, .none_), _] k (true, .none_), rfl⟩, fun ws3 => ?_⟩
    refine ⟨⟨fun k => List.getD [(true, .none_), (true, .none_), (true, .none_), (true, .none_), _] k (true, .none_), rfl⟩, fun _ => ?_⟩
    show wpB _ _ _ _ _ _ ((12, _) :: (11, _) :: (40, _) :: (39, _) :: (38, _) :: (31, _) :: (37, _) :: (36, _) :: (35, _) :: (34, _) :: (33, _) :: (32, _) :: _) _
    refine .nil ?_
    refine .seq ?_
    refine .seq ?_
    refine .region rfl ?_
    refine .p (.move (.t rfl) (.p (.neqI (.t rfl) (.i rfl) ?_)))
    refine .nil ?_
    refine .condP (.t rfl) (fun hc42 => ?_) (fun hc42 => ?_)
    · refine .seq ?_
      refine .region rfl ?_
      refine .p (.bS0 (α := G_api_Algebra) rfl ty33 fo33 (.p (.bS0 (α := G_api_Item) rfl ty27 fo27 (.p (.move (.t rfl) (.n (.stW ty33 (.t rfl) (.t rfl) (.s .z) (.n (.stW ty27 (.t rfl) (.t rfl) .z (.p (.assign (.t rfl) ?_)))))))))))
      refine .nil ?_
      refine .ret ?_
      refine ⟨_, .r3 rfl (.cell ty33 rfl (.s .z)) (.cell ty27 rfl .z) (.tmp rfl), ?_⟩
      have h : ¬ (epBad place e = true) := by rw [show epBad place e = false from hc28]; decide
      unfold algEpoch; rw [if_neg h, if_pos hc42]
    · refine .skip ?_
      refine .seq ?_
      refine .region rfl ?_
      refine .p (.ldW ty33 (.t rfl) (.s (.s (.s (.s .z)))) (.p (.ldW ty24 (.t rfl) (.s (.s (.s .z))) (.p (.move (.t rfl) (.p (.fldPF G_api_Epoch.l0 (fun x => x.Number) fd38_0 rfl (fun _ => rfl) (.t rfl) (.p (.ldP ty3 (.t rfl) (.p (.move (.t rfl) ?_)))))))))))
      refine .p (.bS4 G_api_Item.l0 G_api_Item.l1 G_api_Item.l2 G_api_Item.l4 rfl ty27 fo27 (fun c0 c1 c2 c4 => (⟨c0, c1, c2, default, c4, default⟩ : G_api_Item)) (fun _ _ _ _ => rfl) rfl rfl rfl rfl rfl (.t rfl) (.i rfl) (.t rfl) (.t rfl) (.p (.call1 hG (rSign_c _ _ _) (.cons (.t rfl) (.cons (.t rfl) (.cons (.t rfl) .nil))) (.p (.ext3_0 (.t rfl) (.p (.ext3_1 (.t rfl) (.p (.ext3_2 (.t rfl) (.n (.stW ty33 (.t rfl) (.t rfl) (.s .z) ?_)))))))))))
      refine .n (.stW ty27 (.t rfl) (.t rfl) .z (.p (.assign (.t rfl) ?_)))
      refine .nil ?_
      refine .ret ?_
      refine ⟨_, .r3 rfl (.cell ty33 rfl (.s .z)) (.cell ty27 rfl .z) (.tmp rfl), ?_⟩
      have h : ¬ (epBad place e = true) := by rw [show epBad place e = false from hc28]; decide
      unfold algEpoch; rw [if_neg h, if_neg hc42]; rfl
theorem rEpoch_c (a : Alg) (k : Tag) (x : Item) (hpl : ∀ y ∈ a.Boxes, y.Plain.length ≤ 1000000) : FunA gl Tryd.prog 16 [.v a, .v k, .v x] (fun r => r = .t2 (.v (itemEpoch a k x).1) (.v (itemEpoch a k x).2)) := by
  refine FunA.intro Tryd.func16 rfl (by kernel_rfl) 39 rfl rfl _ rfl fun C hC hG => ?_
  refine .seq ?_
  refine .region rfl ?_
  refine .h (.box (.t rfl) fun b3 => .h (.box (.t rfl) fun b4 => .h (.box (.t rfl) fun b5 => .h (.alloc ty38 fun b6 => .p (.assign (.i rfl) ?_)))))
  refine .nil ?_
  refine .seq ?_
  refine .seq ?_
  refine .region rfl ?_
  refine .p (.fldW G_api_Item.l1 fd27_1 rfl (.t rfl) (.p (.ldF (fun x => x.Kind) ty3 (.t rfl) (.s .z) (fun _ => rfl) (.p (.neqI (.t rfl) (.i rfl) ?_)))))
  refine .nil ?_
  refine .condP (.t rfl) (fun hc13 => ?_) (fun hc13 => ?_)
  · refine .seq ?_
    refine .region rfl ?_
    refine .p (.bS0 (α := G_api_Epoch) rfl ty38 fo38 (.n (.stW ty38 (.t rfl) (.t rfl) .z (.p (.assign (.i rfl) ?_)))))
    refine .nil ?_
    refine .ret ?_
    refine ⟨_, .r2 rfl (.cell ty38 rfl .z) (.tmp rfl), ?_⟩
    unfold itemEpoch; rw [if_pos hc13]
  · refine .skip ?_
    refine .seq ?_
    refine .region rfl ?_
    refine .p (.ldW ty33 (.t rfl) (.s (.s (.s .z))) (.p (.ldW ty24 (.t rfl) (.s (.s .z)) (.p (.fldW G_api_Item.l4 fd27_4 rfl (.t rfl) (.p (.ldF (fun x => x.Box) ty25 (.t rfl) (.s .z) (fun _ => rfl) (.p (.call1 hG (rOpen_c _ _ _ hpl) (.cons (.t rfl) (.cons (.t rfl) (.cons (.t rfl) .nil))) (.p (.move (.t rfl) ?_)))))))))))
    refine .p (.ext2_0 (.t rfl) (.p (.ext2_1 (.t rfl) (.p (.assign (.t rfl) (.p (.assign (.t rfl) ?_)))))))
    refine .nil ?_
    refine .seq ?_
    refine .seq ?_
    refine .region rfl ?_
    refine .p (.move (.t rfl) (.p (.neqI (.t rfl) (.i rfl) ?_)))
    refine .nil ?_
    refine .condP (.t rfl) (fun hc24 => ?_) (fun hc24 => ?_)
    · refine .seq ?_
      refine .region rfl ?_
      refine .p (.bS0 (α := G_api_Epoch) rfl ty38 fo38 (.p (.move (.t rfl) (.n (.stW ty38 (.t rfl) (.t rfl) .z (.p (.assign (.t rfl) ?_)))))))
      refine .nil ?_
      refine .ret ?_
      refine ⟨_, .r2 rfl (.cell ty38 rfl .z) (.tmp rfl), ?_⟩
      unfold itemEpoch; rw [if_neg hc13, if_pos hc24]
    · refine .skip ?_
      refine .seq ?_
      refine .seq ?_
      refine .region rfl ?_
      refine .p (.move (.t rfl) (.p (.len Tryd.underlying25 (.t rfl) (.p (.neqI (.t rfl) (.i rfl) ?_)))))
      refine .nil ?_
      refine .condP (.t rfl) (fun hc29 => ?_) (fun hc29 => ?_)
      · refine .seq ?_
        refine .region rfl ?_
        refine .p (.bS0 (α := G_api_Epoch) rfl ty38 fo38 (.n (.stW ty38 (.t rfl) (.t rfl) .z (.p (.assign (.i rfl) ?_)))))
        refine .nil ?_
        refine .ret ?_
        refine ⟨_, .r2 rfl (.cell ty38 rfl .z) (.tmp rfl), ?_⟩
        unfold itemEpoch; rw [if_neg hc13, if_neg hc24, if_pos (by omega)]
      · refine .skip ?_
        refine .seq ?_
        refine .region rfl ?_
        refine .p (.fldW G_api_Item.l2 fd27_2 rfl (.t rfl) (.p (.ldF (fun x => x.Number) ty3 (.t rfl) (.s .z) (fun _ => rfl) (.p (.bS1 G_api_Epoch.l0 rfl ty38 fo38 (fun c0 => (⟨c0, default⟩ : G_api_Epoch)) (fun _ => rfl) rfl rfl (.t rfl) (.h (.alloc ty38 fun b10 => .n (.stW ty38 (.t rfl) (.t rfl) .z ?_))))))))
        refine .nil ?_
        refine .seq ?_
        refine .region rfl ?_
        refine .p (.fldW G_api_Epoch.l1 fd38_1 rfl (.t rfl) (.p (.slArrL ar24 (.t rfl) (.p (.move (.t rfl) (.h (.copySv ty5 Tryd.underlying25 (.t rfl) .z (.v (.t rfl)) (by first | omega | (simp; done) | (simp; omega) | (simp at *; omega)) ?_)))))))
        refine .nil ?_
        refine .seq ?_
        refine .region rfl ?_
        refine .p (.ldW ty38 (.t rfl) .z (.n (.stW ty38 (.t rfl) (.t rfl) (.s .z) (.p (.assign (.i rfl) ?_)))))
        refine .nil ?_
        refine .ret ?_
        refine ⟨_, .r2 rfl (.cell ty38 rfl (.s .z)) (.tmp rfl), ?_⟩
        have h32 : (algOpen a k x.Box).1.length = 32 := by omega
        unfold itemEpoch; rw [if_neg hc13, if_neg hc24, if_neg (by omega), tagOf_eq h32]
        exact congrArg (fun q => AV.t2 (.v (⟨x.Number, q⟩ : Epoch)) (.v (0 : Int))) (arrCopy_all default h32)
theorem epoch_c (a : Alg) (k : Tag) (x : Item) (hpl : ∀ y ∈ a.Boxes, y.Plain.length ≤ 1000000) : FunA gl Tryd.prog 12 [.v a, .v k, .v x] (fun r => r = .t2 (.v (itemEpoch a k x).1) (.v (itemEpoch a k x).2)) := by
  refine FunA.intro Tryd.func12 rfl (by kernel_rfl) 36 rfl rfl _ rfl fun C hC hG => ?_
  refine .seq ?_
  refine .region rfl ?_
  refine .h (.box (.t rfl) fun b3 => .h (.box (.t rfl) fun b4 => .h (.box (.t rfl) fun b5 => .h (.alloc ty38 fun b6 => .p (.assign (.i rfl) ?_)))))
  refine .nil ?_
  refine .seq ?_
  refine .seq ?_
  refine .region rfl ?_
  refine .p (.fldW G_api_Item.l1 fd27_1 rfl (.t rfl) (.p (.ldF (fun x => x.Kind) ty3 (.t rfl) (.s .z) (fun _ => rfl) (.p (.neqI (.t rfl) (.i rfl) ?_)))))
  refine .nil ?_
  refine .condP (.t rfl) (fun hc12 => ?_) (fun hc12 => ?_)
  · refine .seq ?_
    refine .region rfl ?_
    refine .p (.bS0 (α := G_api_Epoch) rfl ty38 fo38 (.n (.stW ty38 (.t rfl) (.t rfl) .z (.p (.assign (.i rfl) ?_)))))
    refine .nil ?_
    refine .ret ?_
    refine ⟨_, .r2 rfl (.cell ty38 rfl .z) (.tmp rfl), ?_⟩
    unfold itemEpoch; rw [if_pos hc12]
  · refine .skip ?_
    refine .seq ?_
    refine .region rfl ?_
    refine .p (.ldW ty33 (.t rfl) (.s (.s (.s .z))) (.p (.ldW ty24 (.t rfl) (.s (.s .z)) (.p (.fldW G_api_Item.l4 fd27_4 rfl (.t rfl) (.p (.ldF (fun x => x.Box) ty25 (.t rfl) (.s .z) (fun _ => rfl) (.p (.call1 hG (boxOpen_c _ _ _ hpl) (.cons (.t rfl) (.cons (.t rfl) (.cons (.t rfl) .nil))) (.p (.move (.t rfl) ?_)))))))))))
    refine .p (.ext2_0 (.t rfl) (.p (.ext2_1 (.t rfl) (.p (.assign (.t rfl) (.p (.assign (.t rfl) ?_)))))))
    refine .nil ?_
    refine .seq ?_
    refine .seq ?_
    refine .region rfl ?_
    refine .p (.move (.t rfl) (.p (.neqI (.t rfl) (.i rfl) ?_)))
    refine .nil ?_
    refine .condP (.t rfl) (fun hc23 => ?_) (fun hc23 => ?_)
    · refine .seq ?_
      refine .region rfl ?_
      refine .p (.bS0 (α := G_api_Epoch) rfl ty38 fo38 (.p (.move (.t rfl) (.n (.stW ty38 (.t rfl) (.t rfl) .z (.p (.assign (.t rfl) ?_)))))))
      refine .nil ?_
      refine .ret ?_
      refine ⟨_, .r2 rfl (.cell ty38 rfl .z) (.tmp rfl), ?_⟩
      unfold itemEpoch; rw [if_neg hc12, if_pos hc23]
    · refine .skip ?_
      refine .seq ?_
      refine .seq ?_
      refine .region rfl ?_
      refine .p (.move (.t rfl) (.p (.len Tryd.underlying25 (.t rfl) (.p (.neqI (.t rfl) (.i rfl) ?_)))))
      refine .nil ?_
      refine .condP (.t rfl) (fun hc28 => ?_) (fun hc28 => ?_)
      · refine .seq ?_
        refine .region rfl ?_
        refine .p (.bS0 (α := G_api_Epoch) rfl ty38 fo38 (.n (.stW ty38 (.t rfl) (.t rfl) .z (.p (.assign (.i rfl) ?_)))))
        refine .nil ?_
        refine .ret ?_
        refine ⟨_, .r2 rfl (.cell ty38 rfl .z) (.tmp rfl), ?_⟩
        unfold itemEpoch; rw [if_neg hc12, if_neg hc23, if_pos (by omega)]
      · refine .skip ?_
        refine .seq ?_
        have h32 : (algOpen a k x.Box).1.length = 32 := by omega
        refine .draw (by kernel_rfl) 6 [[], [(30, 0)], [], [(32, 2)], [(33, 3)], [(31, 1), (34, 4)]] rfl (by kernel_rfl) rfl ?_
        refine ⟨_, OpP.fldW G_api_Item.l2 fd27_2 rfl (.t rfl) rfl, ?_⟩
        refine ⟨_, OpP.ldF (fun x => x.Number) ty3 (.t rfl) (.s .z) (fun _ => rfl) rfl, ?_⟩
        refine ⟨_, OpP.move (.t rfl) rfl, ?_⟩
        refine ⟨_, OpP.slToArr Tryd.underlying24 (by decide) (by decide) (.t rfl) h32 rfl, ?_⟩
        refine ⟨_, OpP.ldP ty24 (.t rfl) rfl, ?_⟩
        refine ⟨_, OpP.bS2 G_api_Epoch.l0 G_api_Epoch.l1 rfl ty38 fo38 (fun c0 c1 => (⟨c0, c1⟩ : G_api_Epoch)) (fun _ _ => rfl) rfl rfl rfl (.t rfl) (.t rfl) rfl, ?_⟩
        show wpB _ _ _ _ _ _ ((35, _) :: (34, _) :: (33, _) :: (32, _) :: (31, _) :: (30, _) :: _) _
        refine .n (.stW ty38 (.t rfl) (.t rfl) .z (.p (.assign (.i rfl) ?_)))
        refine .nil ?_
        refine .ret ?_
        refine ⟨_, .r2 rfl (.cell ty38 rfl .z) (.tmp rfl), ?_⟩
        unfold itemEpoch; rw [if_neg hc12, if_neg hc23, if_neg (by omega), tagOf_eq h32]
theorem epBox_le {a : Alg} (hb : ∀ x ∈ a.Boxes, x.Box.length ≤ 1000000) (f : Int) (k : Tag) (n : Int) (e : Epoch) : (mkBox a f k n e.Key.l (realBox k n e.Key.l)).1.length ≤ 1000000 := by
  unfold mkBox
  split
  · simp
  · split
    · next x hx => exact hb x (List.mem_of_find?_eq_some hx)
    · split
      · simp
      · dsimp only
        split
        · simp [Arr.len]
        · rw [realBox_length, Arr.len]; decide
theorem ep_av {m : Tag × Alg × Int} {y : Item} {r : Alg × Item × Int} (h : (if m.2.2 ≠ 0 then (default, default, m.2.2) else (m.2.1, ({ y with Tag := m.1 } : Item), 0)) = r) :
    AV.t3 (.v (if m.2.2 ≠ 0 then default else m.2.1)) (.v (if m.2.2 ≠ 0 then default else ({ y with Tag := m.1 } : Item))) (.v m.2.2) = .t3 (.v r.1) (.v r.2.1) (.v r.2.2) := by
  subst h
  by_cases h0 : m.2.2 = 0
  · simp only [h0, ne_eq, not_true, if_false]
  · simp only [ne_eq, h0, not_false_eq_true, if_true]
def epMk (a : Alg) (k : Tag) (place : Int) (e : Epoch) (f : Int) : Tag × Alg × Int :=
  mkMac (mkBox a (errInto f place e.Key.l) k place e.Key.l (realBox k place e.Key.l)).2.1 (mkErr (mkBox a (errInto f place e.Key.l) k place e.Key.l (realBox k place e.Key.l)).2.2 (itemErr (epItem place e (mkBox a (errInto f place e.Key.l) k place e.Key.l (realBox k place e.Key.l)).1))) k
    (itemMsg (epItem place e (mkBox a (errInto f place e.Key.l) k place e.Key.l (realBox k place e.Key.l)).1)).1
theorem epMk_bad (a : Alg) (k : Tag) (place : Int) (e : Epoch) (h : epBad place e = true) : (if (epMk a k place e 1).2.2 ≠ 0 then (default, default, (epMk a k place e 1).2.2) else
    ((epMk a k place e 1).2.1, ({ epItem place e (mkBox a (errInto 1 place e.Key.l) k place e.Key.l (realBox k place e.Key.l)).1 with Tag := (epMk a k place e 1).1 } : Item), 0)) = algEpoch a k place e := by
  have h1 : errInto 1 place e.Key.l = 1 := by unfold errInto; simp
  have h2 : epMk a k place e 1 = (default, a, 1) := by
    unfold epMk
    rw [h1, mkBox_err (by decide)]
    have : mkErr 1 (itemErr (epItem place e [])) = 1 := rfl
    rw [this, mkMac_err (by decide)]
  rw [h2]
  unfold algEpoch
  rw [if_pos h]; rfl
theorem epMk_ok (a : Alg) (k : Tag) (place : Int) (e : Epoch) (h : epBad place e = false) : (if (epMk a k place e 0).2.2 ≠ 0 then (default, default, (epMk a k place e 0).2.2) else
    ((epMk a k place e 0).2.1, ({ epItem place e (mkBox a (errInto 0 place e.Key.l) k place e.Key.l (realBox k place e.Key.l)).1 with Tag := (epMk a k place e 0).1 } : Item), 0)) = algEpoch a k place e := by
  have hs := mkSeal_done a k place e.Key.l
  unfold algEpoch epMk
  rw [h, if_neg (show ¬ (false = true) by decide), ← hs]
  generalize mkBox a (errInto 0 place e.Key.l) k place e.Key.l (realBox k place e.Key.l) = m1
  by_cases h0 : m1.2.2 = 0
  · rw [h0]
    simp only [ne_eq, not_true, if_false]
    exact mkSign_done m1.2.1 k (epItem place e m1.1)
  · have h3 : mkErr m1.2.2 (itemErr (epItem place e m1.1)) = m1.2.2 := by unfold mkErr; rw [if_neg h0]
    rw [h3, mkMac_err h0]
    simp only [ne_eq, h0, not_false_eq_true, if_true]
theorem epochItem_c (a : Alg) (k : Tag) (place : Int) (e : Epoch) (hm : a.Macs.length ≤ 1000000) (hl : a.Boxes.length ≤ 1000000) (hb : ∀ x ∈ a.Boxes, x.Box.length ≤ 1000000) : FunA gl Tryd.prog 8 [.v a, .v k, .v place, .v e] (fun r => r = .t3 (.v (algEpoch a k place e).1) (.v (algEpoch a k place e).2.1) (.v (algEpoch a k place e).2.2)) := by
  refine FunA.intro Tryd.func8 rfl (by kernel_rfl) 45 rfl rfl _ rfl fun C hC hG => ?_
  refine .seq ?_
  refine .region rfl ?_
  refine .h (.box (.t rfl) fun b4 => .h (.box (.t rfl) fun b5 => .h (.box (.t rfl) fun b7 => .h (.alloc ty33 fun b8 => .h (.alloc ty27 fun b9 => .p (.assign (.i rfl) ?_))))))
  refine .nil ?_
  refine .seq ?_
  refine .region rfl ?_
  refine .p (.ldW ty33 (.t rfl) (.s (.s (.s (.s .z)))) (.h (.call0 hG (Begin_c _) (.cons (.t rfl) .nil) fun r14 Hs14 hr14 => ?_)))
  obtain ⟨w14, x14, rfl, rfl, ha14, he14⟩ := hr14
  show wpB _ _ _ _ _ _ _ ((true, _) :: _)
  refine .p (.assign (.t rfl) ?_)
  refine .nil ?_
  refine .seq ?_
  refine .seq ?_
  refine .region rfl ?_
  refine .p (.move (.t rfl) (.p (.call1 hG (places_c _) (.cons (.t rfl) .nil) (.p (.not (.t rfl) (.p (.move (.t rfl) ?_)))))))
  refine .go 18 rfl (.t rfl) (fun hg19 => .fldW G_api_Epoch.l0 fd38_0 rfl (.t rfl) rfl) ?_
  refine .go 18 rfl (.t rfl) (fun hg20 => .ldF (fun x => x.Number) ty3 (.o rfl (beq_iff_eq.2 hg20)) (.s (.s (.s .z))) (fun _ => rfl) rfl) ?_
  refine .go 18 rfl (.t rfl) (fun hg21 => .call1 hG (epochs_c _) (.cons (.o rfl (beq_iff_eq.2 hg21)) .nil) rfl) ?_
  refine .go 18 rfl (.t rfl) (fun hg22 => .not (.o rfl (beq_iff_eq.2 hg22)) rfl) ?_
  refine .p (.pickOr (.t rfl) (fun hp => (.o rfl (beq_iff_eq.2 hp))) ?_)
  refine .nil ?_
  refine .cond (.t rfl) (fun hc23 => ?_) (fun hc23 => ?_)
  · refine .region rfl ?_
    refine .p (.move (.t rfl) (.h (.callM hG (Fail_mk _ _ _) .z (.cons (.t rfl) (.cons (.i rfl) .nil)) (by rintro _ _ ⟨_, rfl, _⟩; exact ⟨_, rfl⟩) fun r25 B25 hr25 => ?_)))
    obtain ⟨x25, hB, ha25, he25⟩ := hr25
    cases hB
    refine .nil ?_
    refine .seq ?_
    refine .frzOb hC (.s (.s (.s .z))) ?_
    refine .asP 7 rfl (.s (.s (.s .z))) ?_
    refine .drawCF [true, false, false, false, false, false] (by kernel_rfl) 7 [[], [], [], [], [(29, 3)], [(26, 0), (27, 1), (28, 2), (30, 4)], [(31, 5)]] [5, 6] rfl (by kernel_rfl) rfl (by kernel_rfl) (by decide) ?_
    refine ⟨_, fun H => OpP.move (.t rfl) rfl, ?_⟩
    refine ⟨_, fun H => OpP.ldW ty24 (.t rfl) (Hole.app (.s (.s (.s (.s .z))))) rfl, ?_⟩
    refine ⟨_, fun H => OpP.move (.t rfl) rfl, ?_⟩
    refine ⟨_, fun H => OpP.fldPF G_api_Epoch.l1 (fun x => x.Key) fd38_1 rfl (fun _ => rfl) (.t rfl) rfl, ?_⟩
    refine ⟨_, fun H => OpP.slArrP (by decide) ar24 (.t rfl) rfl, ?_⟩
    refine .inl ?_
    refine .inl ?_
    refine ⟨⟨([], fun k => List.getD [_, (true, .none_), (true, .none_), (true, .none_), (true, .none_), (true, .none_)] k (true, .none_)), rfl⟩, ?_⟩
    refine OpH.callM hG (Into_c _ _ _ _ _ (by first | (rw [ha25, ha14]; exact hl) | (rw [ha14]; exact hl)) (by first | (rw [ha25, ha14]; exact hb) | (rw [ha14]; exact hb))) .z (.cons (.t rfl) (.cons (.t rfl) (.cons (.t rfl) (.cons (.t rfl) .nil)))) (by rintro _ _ ⟨_, rfl, _⟩; exact ⟨_, rfl⟩) fun r31 B31 hr31 => ?_
    obtain ⟨x31, hB, rfl, ha31, he31⟩ := hr31
    cases hB
    refine ⟨⟨([], fun k => List.getD [_, (true, .none_), (true, .none_), (true, .none_), (true, .none_), (true, .none_)] k (true, .none_)), rfl⟩, ?_⟩
    refine OpH.ofP (OpP.assign (.t rfl) ?_)
    refine ⟨⟨([], fun k => List.getD [_, (true, .none_), (true, .none_), (true, .none_), (true, .none_), (true, .none_)] k (true, .none_)), rfl⟩, ?_⟩
    show wpB _ _ _ _ _ _ ((12, _) :: (31, _) :: (30, _) :: (29, _) :: (28, _) :: (27, _) :: (26, _) :: _) _
    refine .nil ?_
    refine .seq ?_
    refine .region rfl ?_
    refine .p (.move (.t rfl) (.p (.move (.t rfl) (.p (.ldW ty24 (.t rfl) (.s (.s (.s (.s .z)))) (.p (.move (.t rfl) (.p (.fldPF G_api_Epoch.l0 (fun x => x.Number) fd38_0 rfl (fun _ => rfl) (.t rfl) (.p (.ldP ty3 (.t rfl) ?_)))))))))))
    refine .p (.move (.t rfl) (.p (.bS4 G_api_Item.l0 G_api_Item.l1 G_api_Item.l2 G_api_Item.l4 rfl ty27 fo27 (fun c0 c1 c2 c4 => (⟨c0, c1, c2, default, c4, default⟩ : G_api_Item)) (fun _ _ _ _ => rfl) rfl rfl rfl rfl rfl (.t rfl) (.i rfl) (.t rfl) (.t rfl) (.h (.callM hG (into_mk _ _ _ _ (epBox_le (by first | (rw [ha25, ha14]; exact hb) | (rw [ha14]; exact hb)) _ _ _ _) (by rw [ha31, mkBox_macs]; first | (rw [ha25, ha14]; exact hm) | (rw [ha14]; exact hm))) .z (.cons (.t rfl) (.cons (.t rfl) (.cons (.t rfl) .nil))) (by rintro _ _ ⟨_, rfl, _⟩; exact ⟨_, rfl⟩) fun r40 B40 hr40 => ?_)))))
    obtain ⟨x40, hB, rfl, ha40, he40⟩ := hr40
    cases hB
    refine .h (.callM hG (done_mk _ _ _) .z (.cons (.t rfl) (.cons (.t rfl) .nil)) (by rintro _ _ ⟨_, rfl, _⟩; exact ⟨_, rfl⟩) fun r41 B41 hr41 => ?_)
    obtain ⟨x41, hB, rfl, rfl⟩ := hr41
    cases hB
    refine .p (.ext3_0 (.t rfl) ?_)
    refine mkDoneB hC 42 rfl .z ?_
    refine .p (.ext3_1 (.t rfl) (.p (.ext3_2 (.t rfl) (.n (.stW ty33 (.t rfl) (.t rfl) (.s (.s .z)) (.n (.stW ty27 (.t rfl) (.t rfl) (.s .z) (.p (.assign (.t rfl) ?_)))))))))
    refine .nil ?_
    refine .ret ?_
    refine ⟨_, .r3 rfl (.cell ty33 rfl (.s (.s .z))) (.cell ty27 rfl (.s .z)) (.tmp rfl), ?_⟩
    have hb0 : epBad place e = true := by unfold epBad; simp only [Bool.and_eq_true, Bool.or_eq_true, Bool.not_eq_true', Bool.not_eq_false', Bool.and_eq_false_iff, Bool.or_eq_false_iff, decide_eq_true_eq, decide_eq_false_iff_not, ne_eq, Decidable.not_not] at *; omega
    have hx : x25.e = 1 := by rw [he25, if_pos he14]
    simp only [ha31, he31, hx, ha25, ha14] at ha40 he40 ⊢
    rw [ha40, he40]; exact ep_av (epMk_bad a k place e hb0)
  · refine .skip ?_
    refine .seq ?_
    refine .frzOb hC (.s (.s (.s .z))) ?_
    refine .asP 7 rfl (.s (.s (.s .z))) ?_
    refine .drawCF [true, false, false, false, false, false] (by kernel_rfl) 7 [[], [], [], [], [(29, 3)], [(26, 0), (27, 1), (28, 2), (30, 4)], [(31, 5)]] [5, 6] rfl (by kernel_rfl) rfl (by kernel_rfl) (by decide) ?_
    refine ⟨_, fun H => OpP.move (.t rfl) rfl, ?_⟩
    refine ⟨_, fun H => OpP.ldW ty24 (.t rfl) (Hole.app (.s (.s (.s (.s .z))))) rfl, ?_⟩
    refine ⟨_, fun H => OpP.move (.t rfl) rfl, ?_⟩
    refine ⟨_, fun H => OpP.fldPF G_api_Epoch.l1 (fun x => x.Key) fd38_1 rfl (fun _ => rfl) (.t rfl) rfl, ?_⟩
    refine ⟨_, fun H => OpP.slArrP (by decide) ar24 (.t rfl) rfl, ?_⟩
    refine .inl ?_
    refine .inl ?_
    refine ⟨⟨([], fun k => List.getD [_, (true, .none_), (true, .none_), (true, .none_), (true, .none_), (true, .none_)] k (true, .none_)), rfl⟩, ?_⟩
    refine OpH.callM hG (Into_c _ _ _ _ _ (by first | (rw [ha25, ha14]; exact hl) | (rw [ha14]; exact hl)) (by first | (rw [ha25, ha14]; exact hb) | (rw [ha14]; exact hb))) .z (.cons (.t rfl) (.cons (.t rfl) (.cons (.t rfl) (.cons (.t rfl) .nil)))) (by rintro _ _ ⟨_, rfl, _⟩; exact ⟨_, rfl⟩) fun r31 B31 hr31 => ?_
    obtain ⟨x31, hB, rfl, ha31, he31⟩ := hr31
    cases hB
    refine ⟨⟨([], fun k => List.getD [_, (true, .none_), (true, .none_), (true, .none_), (true, .none_), (true, .none_)] k (true, .none_)), rfl⟩, ?_⟩
    refine OpH.ofP (OpP.assign (.t rfl) ?_)
    refine ⟨⟨([], fun k => List.getD [_, (true, .none_), (true, .none_), (true, .none_), (true, .none_), (true, .none_)] k (true, .none_)), rfl⟩, ?_⟩
    show wpB _ _ _ _ _ _ ((12, _) :: (31, _) :: (30, _) :: (29, _) :: (28, _) :: (27, _) :: (26, _) :: _) _
    refine .nil ?_
    refine .seq ?_
    refine .region rfl ?_
    refine .p (.move (.t rfl) (.p (.move (.t rfl) (.p (.ldW ty24 (.t rfl) (.s (.s (.s (.s .z)))) (.p (.move (.t rfl) (.p (.fldPF G_api_Epoch.l0 (fun x => x.Number) fd38_0 rfl (fun _ => rfl) (.t rfl) (.p (.ldP ty3 (.t rfl) ?_)))))))))))
    refine .p (.move (.t rfl) (.p (.bS4 G_api_Item.l0 G_api_Item.l1 G_api_Item.l2 G_api_Item.l4 rfl ty27 fo27 (fun c0 c1 c2 c4 => (⟨c0, c1, c2, default, c4, default⟩ : G_api_Item)) (fun _ _ _ _ => rfl) rfl rfl rfl rfl rfl (.t rfl) (.i rfl) (.t rfl) (.t rfl) (.h (.callM hG (into_mk _ _ _ _ (epBox_le (by first | (rw [ha25, ha14]; exact hb) | (rw [ha14]; exact hb)) _ _ _ _) (by rw [ha31, mkBox_macs]; first | (rw [ha25, ha14]; exact hm) | (rw [ha14]; exact hm))) .z (.cons (.t rfl) (.cons (.t rfl) (.cons (.t rfl) .nil))) (by rintro _ _ ⟨_, rfl, _⟩; exact ⟨_, rfl⟩) fun r40 B40 hr40 => ?_)))))
    obtain ⟨x40, hB, rfl, ha40, he40⟩ := hr40
    cases hB
    refine .h (.callM hG (done_mk _ _ _) .z (.cons (.t rfl) (.cons (.t rfl) .nil)) (by rintro _ _ ⟨_, rfl, _⟩; exact ⟨_, rfl⟩) fun r41 B41 hr41 => ?_)
    obtain ⟨x41, hB, rfl, rfl⟩ := hr41
    cases hB
    refine .p (.ext3_0 (.t rfl) ?_)
    refine mkDoneB hC 42 rfl .z ?_
    refine .p (.ext3_1 (.t rfl) (.p (.ext3_2 (.t rfl) (.n (.stW ty33 (.t rfl) (.t rfl) (.s (.s .z)) (.n (.stW ty27 (.t rfl) (.t rfl) (.s .z) (.p (.assign (.t rfl) ?_)))))))))
    refine .nil ?_
    refine .ret ?_
    refine ⟨_, .r3 rfl (.cell ty33 rfl (.s (.s .z))) (.cell ty27 rfl (.s .z)) (.tmp rfl), ?_⟩
    have hb0 : epBad place e = false := by unfold epBad; simp only [Bool.and_eq_true, Bool.or_eq_true, Bool.not_eq_true', Bool.not_eq_false', Bool.and_eq_false_iff, Bool.or_eq_false_iff, decide_eq_true_eq, decide_eq_false_iff_not, ne_eq, Decidable.not_not] at *; omega
    simp only [ha31, he31, he14, ha14] at ha40 he40 ⊢
    rw [ha40, he40]; exact ep_av (epMk_ok a k place e hb0)
end Go.Proofs.YtkjpkdpnlioffaaDoor
set_option maxRecDepth 1000000
set_option linter.unusedVariables false
set_option linter.unusedSimpArgs false
namespace Go.Proofs.YtkjpkdpnlioffaaDoor
open Go.Fl Go.Ab Go.Mac Go.Sha
theorem AlgOk.plainLe {a : Alg} {n : Nat} (h : AlgOk a n) : ∀ x ∈ a.Boxes, x.Plain.length ≤ 1000000 := fun x hx => by
  obtain ⟨i, hi, rfl⟩ := List.getElem_of_mem hx
  have := (h.box i hi).1
  omega
theorem symTag_len (c : UInt8) (n : Int) : (symTag c n).l.length = 32 := (symTag c n).len
theorem sym98 : ∀ i, i < 8 → ∀ j, j < 8 → symTag 98 ((i + 1 : Nat) : Int) = symTag 98 ((j + 1 : Nat) : Int) → i = j := by decide +kernel
theorem symBox_inj {i j m n : Nat} (hi : i < 8) (hj : j < 8) (h : (symTag 98 ((i + 1 : Nat) : Int)).l ++ List.replicate m (0 : UInt8) = (symTag 98 ((j + 1 : Nat) : Int)).l ++ List.replicate n 0) : i = j :=
  sym98 i hi j hj (Arr.ext (List.append_inj_left h (by rw [symTag_len, symTag_len])))
theorem stream_twice (k : Tag) (n : UInt64) (p : List UInt8) : streamL k n (streamL k n p p.length) (streamL k n p p.length).length = p := by
  rw [streamL_all, streamL_all]
  apply List.ext_getElem (by simp)
  intro i h1 h2
  simp [UInt8.xor_assoc]
theorem head_len (k : Tag) (n : Int) (p : List UInt8) : (sealHead k n p).length = p.length + 8 := by simp [sealHead, be64_length, streamL_length]; omega
theorem real_take (k : Tag) (n : Int) (p : List UInt8) : (realBox k n p).take ((realBox k n p).length - 32) = sealHead k n p := by
  rw [realBox_length]
  unfold realBox
  rw [List.take_left' (by rw [head_len]; omega)]
theorem real_drop (k : Tag) (n : Int) (p : List UInt8) : (realBox k n p).drop ((realBox k n p).length - 32) = (hmac k.l (boxStr.l ++ sealHead k n p)).l := by
  rw [realBox_length]
  unfold realBox
  rw [List.drop_left' (by rw [head_len]; omega)]
theorem real_body (k : Tag) (n : Int) (p : List UInt8) : openBody k (realBox k n p) = p := by
  unfold openBody
  rw [real_take]
  have h1 : (sealHead k n p).take 8 = be64 (UInt64.ofInt n) 8 := by unfold sealHead; rw [List.take_left' (be64_length _ _)]
  have h2 : (sealHead k n p).drop 8 = streamL k (UInt64.ofInt n) p p.length := by unfold sealHead; rw [List.drop_left' (be64_length _ _)]
  rw [h1, h2, xorL_stream, stream_twice]
theorem AlgOk.opens {b : Alg} {m : Nat} (hb : AlgOk b m) (hm : m ≤ 7) {i : Nat} (h : i < b.Boxes.length) : algOpen b b.Boxes[i].Key b.Boxes[i].Box = (b.Boxes[i].Plain, 0) ∧ b.Boxes[i].Box.length = b.Boxes[i].Plain.length + 40 := by
  have hl := hb.boxes
  obtain ⟨h1, h2, h3, h4⟩ := hb.box i h
  cases hf : b.Free with
  | true =>
    rw [hf, if_pos rfl] at h4
    refine ⟨?_, by rw [h4, List.length_append, symTag_len, List.length_replicate]; omega⟩
    cases hq : b.Boxes.find? (openEq b.Boxes[i].Key b.Boxes[i].Box) with
    | none =>
      have := List.find?_eq_none.1 hq b.Boxes[i] (List.getElem_mem h)
      simp [openEq] at this
    | some y =>
      rw [algOpen_found hf hq]
      have hy := List.find?_some hq
      obtain ⟨j, hj, rfl⟩ := List.getElem_of_mem (List.mem_of_find?_eq_some hq)
      obtain ⟨_, _, _, g4⟩ := hb.box j hj
      rw [hf, if_pos rfl] at g4
      simp only [openEq, Bool.and_eq_true, decide_eq_true_eq] at hy
      have e := hy.2
      rw [g4, h4] at e
      obtain rfl := symBox_inj (by omega) (by omega) e
      rfl
  | false =>
    rw [hf, if_neg (by decide)] at h4
    have hlen : b.Boxes[i].Box.length = b.Boxes[i].Plain.length + 40 := by rw [h4, realBox_length]
    refine ⟨?_, hlen⟩
    rw [algOpen_ok hf (by omega)]
    · rw [h4, real_body]
    · rw [h4, real_take, real_drop]
theorem AlgOk.sealed {a : Alg} {m : Nat} (ha : AlgOk a m) (hm : m ≤ 6) {k : Tag} {n : Int} {p : List UInt8} (hn0 : 0 ≤ n) (hn1 : n ≤ 281474976710656) (hp : p.length ≤ 256) :
    ∃ b x, algSeal a k n p = (b, x, 0) ∧ AlgOk b (m + 1) ∧ ∃ i, ∃ h : i < b.Boxes.length, b.Boxes[i] = ⟨k, n, p, x⟩ := by
  have hok := ha.boxed (by omega) (k := k) hn0 hn1 hp
  have hr : (decide (n < 0) || decide (281474976710656 < n)) = false := by simp; omega
  have hl := ha.boxes
  cases hf : a.Boxes.find? (sealEq k n p) with
  | some y =>
    have e := algSeal_found hr (by omega) hf
    rw [e] at hok
    refine ⟨a, y.Box, e, hok, ?_⟩
    obtain ⟨i, hi, rfl⟩ := List.getElem_of_mem (List.mem_of_find?_eq_some hf)
    have hy := List.find?_some hf
    simp only [sealEq, Bool.and_eq_true, decide_eq_true_eq] at hy
    refine ⟨i, hi, ?_⟩
    obtain ⟨⟨rfl, rfl⟩, rfl⟩ := hy
    rfl
  | none =>
    have e := algSeal_new hr (by omega) hf (by omega)
    rw [e] at hok
    exact ⟨_, _, e, hok, a.Boxes.length, by simp, by simp⟩
end Go.Proofs.YtkjpkdpnlioffaaDoor
set_option maxRecDepth 1000000
set_option linter.unusedVariables false
set_option linter.unusedSimpArgs false
namespace Go.Proofs.YtkjpkdpnlioffaaDoor
open Go.Fl Go.Ab Go.Mac Go.Sha
theorem algMac_keep {a : Alg} {k : Tag} {m : List UInt8} (h : (algMac a k m).2.2 = 0) : (algMac a k m).1.Free = a.Free ∧ (algMac a k m).1.Boxes = a.Boxes := by
  unfold algMac at *
  split
  · next h1 => rw [if_pos h1] at h; cases h
  · next h1 =>
    rw [if_neg h1] at h
    cases hf : algFind a k m with
    | some x => exact ⟨rfl, rfl⟩
    | none =>
      rw [hf] at h
      simp only at h ⊢
      split
      · next h2 => rw [if_pos h2] at h; cases h
      · exact ⟨rfl, rfl⟩
theorem algSign_keep {a b : Alg} {k : Tag} {x y : Item} (h : algSign a k x = (b, y, 0)) : y.Kind = x.Kind ∧ y.Number = x.Number ∧ y.Box = x.Box ∧ b.Free = a.Free ∧ b.Boxes = a.Boxes := by
  unfold algSign at h
  split at h
  · next h1 => simp only [Prod.mk.injEq] at h; exact absurd h.2.2 h1
  · split at h
    · next h2 => simp only [Prod.mk.injEq] at h; exact absurd h.2.2 h2
    · next h2 =>
      simp only [Prod.mk.injEq] at h
      obtain ⟨rfl, rfl, _⟩ := h
      have := algMac_keep (a := a) (k := k) (m := itemBytes x) (by omega)
      exact ⟨rfl, rfl, rfl, this.1, this.2⟩
theorem algOpen_congr {a b : Alg} (h1 : b.Free = a.Free) (h2 : b.Boxes = a.Boxes) (k : Tag) (l : List UInt8) : algOpen b k l = algOpen a k l := by unfold algOpen; rw [h1, h2]
theorem ep_back {a : Alg} (ha : AlgOk a 4) {k : Tag} {place : Int} {e : Epoch} (h : (algEpoch a k place e).2.2 = 0) :
    itemEpoch (algEpoch a k place e).1 k (algEpoch a k place e).2.1 = (e, 0) ∧ itemCheck (algEpoch a k place e).1 k (algEpoch a k place e).2.1 = 0 ∧ (algEpoch a k place e).2.1.Box.length ≤ 1000 ∧ ∀ x ∈ (algEpoch a k place e).1.Boxes, x.Plain.length ≤ 1000000 := by
  have hb : epBad place e = false := by
    cases hb : epBad place e with
    | false => rfl
    | true => unfold algEpoch at h; rw [if_pos hb] at h; cases h
  have hb0 : 1 ≤ place ∧ place ≤ 4096 ∧ 1 ≤ e.Number ∧ e.Number ≤ 1000 := by unfold epBad at hb; simp at hb; omega
  have hk : e.Key.l.length = 32 := e.Key.len
  obtain ⟨b1, bx, h1, ok1, i, hi, hbi⟩ := ha.sealed (by omega) (k := k) (n := place) (p := e.Key.l) (by omega) (by omega) (by omega)
  have h4 := ok1.opens (by omega) hi
  rw [hbi] at h4
  have h5 : algOpen b1 k bx = (e.Key.l, 0) := h4.1
  have h6 : bx.length = e.Key.l.length + 40 := h4.2
  have hie : itemErr (epItem place e bx) = 0 := by
    unfold itemErr epItem
    simp only
    rw [if_neg (by omega), if_neg (by simp), if_neg (by omega), if_neg (by omega)]
  obtain ⟨c, y, hs⟩ := ok1.signed (by omega) k hie (by show bx.length ≤ 200; omega)
  have e1 : algEpoch a k place e = (c, y, 0) := by
    unfold algEpoch
    rw [hb, if_neg (by decide), h1]
    simp only [ne_eq, not_true, if_false]
    exact hs.sign
  rw [e1]
  obtain ⟨q1, q2, q3, q4, q5⟩ := algSign_keep hs.sign
  have hop : algOpen c k y.Box = (e.Key.l, 0) := by rw [algOpen_congr q4 q5, q3]; exact h5
  refine ⟨?_, hs.check, by rw [q3]; show bx.length ≤ 1000; omega, ?_⟩
  · unfold itemEpoch
    rw [if_neg (by rw [q1]; simp [epItem]), hop, if_neg (by simp), if_neg (by simp), tagOf_eq hk, q2]
    rfl
  · show ∀ x ∈ c.Boxes, _
    rw [q5]; exact ok1.plainLe
theorem FeedEpoch_c (deck : List Int) (place number : Int) (raw : Item) (plain : List UInt8) : FunA gl Tryd.prog 3 [.v deck, .v place, .v number, .v raw, .v plain] (fun r => r = .v true) := by
  refine FunA.intro Tryd.func3 rfl (by kernel_rfl) 164 rfl rfl _ rfl fun C hC hG => ?_
  have hpl : (plain.take (min (plain.length : Int) 60).toNat).length ≤ 60 := by simp; omega
  refine .seq ?_
  refine .region rfl ?_
  refine .h (.box (.t rfl) fun b8 => .p (.assign .b ?_))
  refine .nil ?_
  refine .seq ?_
  refine .drawZ [[false], [true]] [[false], [false], [false], [false], [false], [false], [false], [true], [true], [true], [true], [true], [false], [], [true]] [] [] 1 (by kernel_rfl) 15 [[], [(32, 0)], [], [(34, 2)], [(35, 3)], [(36, 4)], [(33, 1), (37, 5)], [], [], [(40, 8)], [(41, 9)], [(39, 7), (42, 10)], [], [(44, 12), (38, 6)], [(43, 11)]] [13] rfl (by kernel_rfl) rfl (by kernel_rfl) rfl (by decide) (by simp) (fun p hp => by cases hp) (by kernel_rfl) rfl ?_
  refine ⟨_, fun H => OpP.fldW G_api_Item.l4 fd27_4 rfl (.t rfl) rfl, ?_⟩
  refine ⟨_, fun H => OpP.ldF (fun x => x.Box) ty25 (.t rfl) (Hole.app .z) (fun _ => rfl) rfl, ?_⟩
  refine ⟨_, fun H => OpP.fldW G_api_Item.l4 fd27_4 rfl (.t rfl) rfl, ?_⟩
  refine ⟨_, fun H => OpP.ldF (fun x => x.Box) ty25 (.t rfl) (Hole.app .z) (fun _ => rfl) rfl, ?_⟩
  refine ⟨_, fun H => OpP.len Tryd.underlying25 (.t rfl) rfl, ?_⟩
  refine ⟨_, fun H => OpP.minI (.t rfl) (.i rfl) rfl, ?_⟩
  refine ⟨_, fun H => OpP.slHi ty5 Tryd.underlying25 (.t rfl) (.t rfl) (by first | omega | (simp; done) | (simp; omega) | (simp at *; omega)) (by first | omega | (simp; done) | (simp; omega) | (simp at *; omega)) rfl, ?_⟩
  refine ⟨_, fun H => OpP.move (.t rfl) rfl, ?_⟩
  refine ⟨_, fun H => OpP.move (.t rfl) rfl, ?_⟩
  refine ⟨_, fun H => OpP.len Tryd.underlying25 (.t rfl) rfl, ?_⟩
  refine ⟨_, fun H => OpP.minI (.t rfl) (.i rfl) rfl, ?_⟩
  refine ⟨_, fun H => OpP.slHi ty5 Tryd.underlying25 (.t rfl) (.t rfl) (by first | omega | (simp; done) | (simp; omega) | (simp at *; omega)) (by first | omega | (simp; done) | (simp; omega) | (simp at *; omega)) rfl, ?_⟩
  refine ⟨_, fun H => OpP.fldW G_api_Item.l4 fd27_4 rfl (.t rfl) rfl, ?_⟩
  refine .inl ?_
  refine ⟨_, fun H => OpP.assign (.t rfl) rfl, ?_⟩
  refine ⟨rfl, ?_⟩
  refine ⟨⟨fun k => List.getD [(true, .none_)] k (true, .none_), rfl⟩, fun Ys1 => ?_⟩
  refine OpH.stF (fun y x => { x with Box := y }) ty25 (.t rfl) (.t rfl) (Hole.app (Hole.app .z)) (fun _ _ => rfl) ?_
  refine ⟨[], _, rfl, ?_⟩
  refine ⟨⟨fun k => List.getD [_] k (true, .none_), rfl⟩, fun ws1 => ?_⟩
  refine ⟨⟨fun k => List.getD [_] k (true, .none_), rfl⟩, fun _ => ?_⟩
  show wpB _ _ _ _ _ _ ((4, _) :: (44, _) :: (43, _) :: (42, _) :: (41, _) :: (40, _) :: (39, _) :: (38, _) :: (37, _) :: (36, _) :: (35, _) :: (34, _) :: (33, _) :: (32, _) :: _) _
  refine .nil ?_
  refine .seq ?_
  refine .region rfl ?_
  refine .p (.move (.t rfl) (.h (.call0 hG (deckNew_c _) (.cons (.t rfl) .nil) fun r46 Hs46 hr46 => ?_)))
  obtain ⟨b46, rfl, rfl⟩ := hr46
  show wpB _ _ _ _ _ _ _ ((true, _) :: _)
  refine .p (.assign (.t rfl) ?_)
  refine .nil ?_
  refine .seq ?_
  refine .region rfl ?_
  refine .p (.move (.t rfl) (.h (.callM hG (Algebra_deck_c _ _ (by first | assumption | exact deckNew_ok _)) .z (.cons (.t rfl) .nil) (by rintro _ _ ⟨_, _, _, _, _, rfl⟩; exact ⟨_, rfl⟩) fun r48 B48 hr48 => ?_)))
  obtain ⟨a, d48, ha, hd48, rfl, hB⟩ := hr48
  cases hB
  refine .h (.alloc ty33 fun b12 => .n (.stW ty33 (.t rfl) (.t rfl) .z ?_))
  refine .nil ?_
  refine .seq ?_
  refine .region rfl ?_
  refine .p (.move (.t rfl) (.p (.ldW ty33 (.t rfl) .z (.h (.callM hG (Known_deck_c _ _ _ (by first | assumption | exact deckNew_ok _) (by first | omega | (have := ha.macs; omega)) (by first | omega | (have := ha.boxes; omega))) (.s .z) (.cons (.t rfl) (.cons (.t rfl) .nil)) (by rintro _ _ ⟨_, _, _, _, rfl⟩; exact ⟨_, rfl⟩) fun r51 B51 hr51 => ?_)))))
  obtain ⟨k51, d51, hd51, rfl, hB⟩ := hr51
  cases hB
  refine .h (.alloc ty24 fun b13 => .n (.stW ty24 (.t rfl) (.t rfl) .z ?_))
  refine .nil ?_
  refine .seq ?_
  refine .region rfl ?_
  refine .p (.move (.t rfl) (.p (.move (.t rfl) (.h (.callM hG (Tag_deck_c _ _ (by first | assumption | exact deckNew_ok _)) (.s (.s .z)) (.cons (.t rfl) .nil) (by rintro _ _ ⟨_, _, _, _, rfl⟩; exact ⟨_, rfl⟩) fun r54 B54 hr54 => ?_)))))
  obtain ⟨k54, d54, hd54, rfl, hB⟩ := hr54
  cases hB
  refine .p (.bS2 G_api_Epoch.l0 G_api_Epoch.l1 rfl ty38 fo38 (fun c0 c1 => (⟨c0, c1⟩ : G_api_Epoch)) (fun _ _ => rfl) rfl rfl rfl (.t rfl) (.t rfl) (.h (.alloc ty38 fun b14 => .n (.stW ty38 (.t rfl) (.t rfl) .z ?_))))
  refine .nil ?_
  refine .seq ?_
  refine .seq ?_
  refine .frzOb hC (.s .z) ?_
  refine .asP 13 rfl (.s .z) ?_
  refine .frzOb hC (.s (.s (.s (.s .z)))) ?_
  refine .asP 8 rfl (.s (.s (.s (.s .z)))) ?_
  refine .region rfl ?_
  refine .p (.assign (.i rfl) ?_)
  refine .nil ?_
  refine .block ?_
  refine .loopR (α := Nat × Int × Epoch × G_macaroonmade_Deck) [(4, _), (8, _), (11, _), (12, _), (13, _), (14, _)] (fun x R => (1, .v x.2.1) :: (15, .v (x.1 : Int)) :: R) (fun x => [(true, .ob (ptr b14 0) x.2.2.1), (true, .fz (ptr b13 0) (.p k51)), (true, .ob (ptr b12 0) a), (true, .ob (ptr b46 0) x.2.2.2), (true, .fz (ptr b8 0) (.p (⟨raw.Place, raw.Kind, raw.Number, raw.Node, raw.Box.take (min (raw.Box.length : Int) 300).toNat, raw.Tag⟩ : Item)))]) (fun x => x.1 ≤ 2 ∧ DeckOk x.2.2.2) (fun x => 2 - x.1) ((0, place, ⟨number, k54⟩, d54)) (.cons rfl (.cons rfl (.cons rfl (.cons rfl (.cons rfl (.cons rfl (.nil _))))))) ?_ (.cons rfl (.cons rfl (.cons rfl (.cons rfl (.cons rfl (.cons rfl (.cons rfl (.cons rfl (.nil _))))))))) (rfl) fun x hF => ?_
  · exact ⟨Nat.zero_le _, hd54⟩
  obtain ⟨i, pl, e, dk0⟩ := x
  obtain ⟨hi, hd0⟩ := hF
  dsimp only at hi hd0 ⊢
  refine .seq ?_
  refine .seq ?_
  refine .region rfl ?_
  refine .p (.move (.t rfl) (.p (.lss (.t rfl) (.i rfl) ?_)))
  refine .nil ?_
  refine .condP (.t rfl) (fun hc57 => ?_) (fun hc57 => ?_)
  · refine .skip ?_
    refine .seq ?_
    refine .block ?_
    refine .seq ?_
    refine .region rfl ?_
    refine .p (.ldW ty33 (.t rfl) (.s (.s .z)) (.p (.ldP ty24 (.t rfl) (.p (.move (.t rfl) (.p (.ldW ty38 (.t rfl) .z (.p (.call1 hG (epochItem_c _ _ _ _ (by have := ha.macs; omega) (by have := ha.boxes; omega) ha.boxLe) (.cons (.t rfl) (.cons (.t rfl) (.cons (.t rfl) (.cons (.t rfl) .nil)))) (.p (.move (.t rfl) ?_)))))))))))
    refine .p (.ext3_0 (.t rfl) (.p (.ext3_1 (.t rfl) (.p (.ext3_2 (.t rfl) (.h (.alloc ty33 fun b16 => .h (.alloc ty27 fun b17 => .n (.stW ty33 (.t rfl) (.t rfl) (.s .z) ?_)))))))))
    refine .n (.stW ty27 (.t rfl) (.t rfl) .z (.p (.assign (.t rfl) ?_)))
    refine .nil ?_
    refine .seq ?_
    refine .region rfl ?_
    refine .p (.ldW ty33 (.t rfl) (.s (.s (.s (.s .z)))) (.p (.ldP ty24 (.t rfl) (.p (.move (.t rfl) (.p (.ldW ty38 (.t rfl) (.s (.s .z)) (.p (.call1 hG (rEpochItem_c _ _ _ _ ha.boxLe) (.cons (.t rfl) (.cons (.t rfl) (.cons (.t rfl) (.cons (.t rfl) .nil)))) (.p (.move (.t rfl) ?_)))))))))))
    refine .p (.ext3_0 (.t rfl) (.p (.ext3_1 (.t rfl) (.p (.ext3_2 (.t rfl) (.h (.alloc ty33 fun b19 => .h (.alloc ty27 fun b20 => .n (.stW ty33 (.t rfl) (.t rfl) (.s .z) ?_)))))))))
    refine .n (.stW ty27 (.t rfl) (.t rfl) .z (.p (.assign (.t rfl) ?_)))
    refine .nil ?_
    refine .seq ?_
    refine .seq ?_
    refine .region rfl ?_
    refine .p (.ldW ty33 (.t rfl) (.s (.s (.s .z))) (.p (.ldW ty33 (.t rfl) (.s .z) (.p (.call1 hG (sameAlg_c _) (.cons (.t rfl) (.cons (.t rfl) .nil)) (.p (.not (.t rfl) (.p (.move (.t rfl) ?_)))))))))
    refine .go 82 rfl (.t rfl) (fun hg83 => .ldW ty27 (.t rfl) (.s (.s .z)) rfl) ?_
    refine .go 82 rfl (.t rfl) (fun hg84 => .ldW ty27 (.t rfl) .z rfl) ?_
    refine .go 82 rfl (.t rfl) (fun hg85 => .call1 hG (rSameItem_c _ _) (.cons (.o rfl (beq_iff_eq.2 hg85)) (.cons (.o rfl (beq_iff_eq.2 hg85)) .nil)) rfl) ?_
    refine .go 82 rfl (.t rfl) (fun hg86 => .not (.o rfl (beq_iff_eq.2 hg86)) rfl) ?_
    refine .p (.pickOr (.t rfl) (fun hp => (.o rfl (beq_iff_eq.2 hp))) (.p (.move (.t rfl) ?_)))
    refine .go 88 rfl (.t rfl) (fun hg89 => .move (.t rfl) rfl) ?_
    refine .go 88 rfl (.t rfl) (fun hg90 => .move (.t rfl) rfl) ?_
    refine .go 88 rfl (.t rfl) (fun hg91 => .neqI (.o rfl (beq_iff_eq.2 hg91)) (.o rfl (beq_iff_eq.2 hg91)) rfl) ?_
    refine .p (.pickOr (.t rfl) (fun hp => (.o rfl (beq_iff_eq.2 hp))) ?_)
    refine .nil ?_
    refine .cond (.t rfl) (fun hc92 => (by exfalso; simp [sameItem_self] at hc92)) (fun hc92 => ?_)
    refine .skip ?_
    refine .seq ?_
    refine .seq ?_
    refine .region rfl ?_
    refine .p (.move (.t rfl) (.p (.eqlI (.t rfl) (.i rfl) ?_)))
    refine .nil ?_
    refine .condP (.t rfl) (fun hc94 => ?_) (fun hc94 => ?_)
    · refine .seq ?_
      have hq := ep_back ha hc94
      refine .region rfl ?_
      refine .p (.ldW ty33 (.t rfl) (.s (.s (.s .z))) (.p (.ldP ty24 (.t rfl) (.p (.ldW ty27 (.t rfl) (.s (.s .z)) (.p (.call1 hG (epoch_c _ _ _ hq.2.2.2) (.cons (.t rfl) (.cons (.t rfl) (.cons (.t rfl) .nil))) (.p (.move (.t rfl) (.p (.ext2_0 (.t rfl) ?_)))))))))))
      refine .p (.ext2_1 (.t rfl) (.h (.alloc ty38 fun b22 => .n (.stW ty38 (.t rfl) (.t rfl) .z (.p (.assign (.t rfl) ?_))))))
      refine .nil ?_
      refine .seq ?_
      refine .region rfl ?_
      refine .p (.move (.t rfl) (.p (.neqI (.t rfl) (.i rfl) (.p (.move (.t rfl) ?_)))))
      refine .go 104 rfl (.t rfl) (fun hg105 => .ldW ty38 (.t rfl) .z rfl) ?_
      refine .go 104 rfl (.t rfl) (fun hg106 => .ldW ty38 (.t rfl) (.s (.s (.s (.s (.s .z))))) rfl) ?_
      refine .go 104 rfl (.t rfl) (fun hg107 => .neqT eqT38 (by decide) rfl (by kernel_rfl) (.o rfl (beq_iff_eq.2 hg107)) (.o rfl (beq_iff_eq.2 hg107)) rfl) ?_
      refine .p (.pickOr (.t rfl) (fun hp => (.o rfl (beq_iff_eq.2 hp))) (.p (.move (.t rfl) ?_)))
      refine .go 109 rfl (.t rfl) (fun hg110 => .ldW ty33 (.t rfl) (.s (.s (.s (.s .z)))) rfl) ?_
      refine .go 109 rfl (.t rfl) (fun hg111 => .ldP ty24 (.t rfl) rfl) ?_
      refine .go 109 rfl (.t rfl) (fun hg112 => .ldW ty27 (.t rfl) (.s (.s (.s .z))) rfl) ?_
      refine .go 109 rfl (.t rfl) (fun hg113 => .call1 hG (itemCheckP_c _ _ _ (Nat.le_trans hq.2.2.1 (by decide))) (.cons (.o rfl (beq_iff_eq.2 hg113)) (.cons (.o rfl (beq_iff_eq.2 hg113)) (.cons (.o rfl (beq_iff_eq.2 hg113)) .nil))) rfl) ?_
      refine .go 109 rfl (.t rfl) (fun hg114 => .neqI (.o rfl (beq_iff_eq.2 hg114)) (.i rfl) rfl) ?_
      refine .p (.pickOr (.t rfl) (fun hp => (.o rfl (beq_iff_eq.2 hp))) ?_)
      refine .nil ?_
      refine .cond (.t rfl) (fun hc115 => (by exfalso; simp [hq.1, hq.2.1] at hc115)) (fun hc115 => ?_)
      refine .skip ?_
      refine .drop ?_
      refine .drop ?_
      refine .drop ?_
      refine .drop ?_
      refine .drop ?_
      refine .region rfl ?_
      refine .p (.move (.t rfl) (.h (.callM hG (Range_e _ _ _ _ (by first | assumption | exact deckNew_ok _) (by first | omega | (simp; done) | (simp; omega) | (simp at *; omega)) (by first | omega | (simp; done) | (simp; omega) | (simp at *; omega)) (by first | omega | (simp; done) | (simp; omega) | (simp at *; omega))) (.s (.s (.s .z))) (.cons (.t rfl) (.cons (.i rfl) (.cons (.i rfl) .nil))) (by rintro _ _ ⟨_, _, _, _, _, _, rfl⟩; exact ⟨_, rfl⟩) fun r117 B117 hr117 => ?_)))
      obtain ⟨v117, d117, h0117, h1117, hd117, rfl, hB⟩ := hr117
      cases hB
      refine .p (.move (.t rfl) (.h (.callM hG (Range_e _ _ _ _ (by first | assumption | exact deckNew_ok _) (by first | omega | (simp; done) | (simp; omega) | (simp at *; omega)) (by first | omega | (simp; done) | (simp; omega) | (simp at *; omega)) (by first | omega | (simp; done) | (simp; omega) | (simp at *; omega))) (.s (.s (.s .z))) (.cons (.t rfl) (.cons (.i rfl) (.cons (.i rfl) .nil))) (by rintro _ _ ⟨_, _, _, _, _, _, rfl⟩; exact ⟨_, rfl⟩) fun r119 B119 hr119 => ?_)))
      obtain ⟨v119, d119, h0119, h1119, hd119, rfl, hB⟩ := hr119
      cases hB
      refine .p (.assign (.t rfl) (.p (.fldW G_api_Epoch.l0 fd38_0 rfl (.t rfl) (.n (.stF (fun y x => { x with Number := y }) ty3 (.t rfl) (.t rfl) .z (fun _ _ => rfl) ?_)))))
      refine .nil ?_
      refine .region rfl ?_
      refine .p (.move (.t rfl) (.p (.add (.t rfl) (.i rfl) (by first | omega | (simp; done) | (simp; omega) | (simp at *; omega)) (by first | omega | (simp; done) | (simp; omega) | (simp at *; omega)) (.p (.assign (.t rfl) ?_)))))
      refine .nil ?_
      refine ⟨(i + 1, _, _, _), .cons rfl (.cons rfl (.cons rfl (.cons rfl (.cons rfl (.cons rfl (.cons rfl (.cons rfl (.nil _)))))))), rfl, ?_, by dsimp only; omega⟩
      exact ⟨by dsimp only; omega, by assumption⟩
    · refine .skip ?_
      refine .drop ?_
      refine .drop ?_
      refine .drop ?_
      refine .drop ?_
      refine .region rfl ?_
      refine .p (.move (.t rfl) (.h (.callM hG (Range_e _ _ _ _ (by first | assumption | exact deckNew_ok _) (by first | omega | (simp; done) | (simp; omega) | (simp at *; omega)) (by first | omega | (simp; done) | (simp; omega) | (simp at *; omega)) (by first | omega | (simp; done) | (simp; omega) | (simp at *; omega))) (.s (.s (.s .z))) (.cons (.t rfl) (.cons (.i rfl) (.cons (.i rfl) .nil))) (by rintro _ _ ⟨_, _, _, _, _, _, rfl⟩; exact ⟨_, rfl⟩) fun r117 B117 hr117 => ?_)))
      obtain ⟨v117, d117, h0117, h1117, hd117, rfl, hB⟩ := hr117
      cases hB
      refine .p (.move (.t rfl) (.h (.callM hG (Range_e _ _ _ _ (by first | assumption | exact deckNew_ok _) (by first | omega | (simp; done) | (simp; omega) | (simp at *; omega)) (by first | omega | (simp; done) | (simp; omega) | (simp at *; omega)) (by first | omega | (simp; done) | (simp; omega) | (simp at *; omega))) (.s (.s (.s .z))) (.cons (.t rfl) (.cons (.i rfl) (.cons (.i rfl) .nil))) (by rintro _ _ ⟨_, _, _, _, _, _, rfl⟩; exact ⟨_, rfl⟩) fun r119 B119 hr119 => ?_)))
      obtain ⟨v119, d119, h0119, h1119, hd119, rfl, hB⟩ := hr119
      cases hB
      refine .p (.assign (.t rfl) (.p (.fldW G_api_Epoch.l0 fd38_0 rfl (.t rfl) (.n (.stF (fun y x => { x with Number := y }) ty3 (.t rfl) (.t rfl) .z (fun _ _ => rfl) ?_)))))
      refine .nil ?_
      refine .region rfl ?_
      refine .p (.move (.t rfl) (.p (.add (.t rfl) (.i rfl) (by first | omega | (simp; done) | (simp; omega) | (simp at *; omega)) (by first | omega | (simp; done) | (simp; omega) | (simp at *; omega)) (.p (.assign (.t rfl) ?_)))))
      refine .nil ?_
      refine ⟨(i + 1, _, _, _), .cons rfl (.cons rfl (.cons rfl (.cons rfl (.cons rfl (.cons rfl (.cons rfl (.cons rfl (.nil _)))))))), rfl, ?_, by dsimp only; omega⟩
      exact ⟨by dsimp only; omega, by assumption⟩
  · refine .exit ?_
    refine .seq ?_
    refine .region rfl ?_
    refine .p (.ldW ty33 (.t rfl) (.s (.s .z)) (.p (.ldP ty24 (.t rfl) (.p (.move (.t rfl) (.p (.call1 hG (rSeal_c _ _ _ _ ha.boxLe) (.cons (.t rfl) (.cons (.t rfl) (.cons (.i rfl) (.cons (.t rfl) .nil)))) (.p (.move (.t rfl) (.p (.ext3_0 (.t rfl) ?_)))))))))))
    refine .p (.ext3_1 (.t rfl) (.p (.ext3_2 (.t rfl) (.n (.stW ty33 (.t rfl) (.t rfl) (.s (.s .z)) (.p (.assign (.t rfl) (.p (.assign (.t rfl) ?_)))))))))
    refine .nil ?_
    refine .seq ?_
    refine .seq ?_
    refine .frzOb hC (.s (.s .z)) ?_
    refine .asP 12 rfl (.s (.s .z)) ?_
    have hq2 := (ha.boxed (by decide) (k := k51) (c := 1) (p := plain.take (min (plain.length : Int) 60).toNat) (by decide) (by decide) (by omega)).plainLe
    refine .region rfl ?_
    refine .p (.ldP ty27 (.t rfl) (.p (.move (.t rfl) (.p (.bS3 G_api_Item.l1 G_api_Item.l2 G_api_Item.l4 rfl ty27 fo27 (fun c1 c2 c4 => (⟨0, c1, c2, default, c4, default⟩ : G_api_Item)) (fun _ _ _ => rfl) rfl rfl rfl rfl (.i rfl) (.i rfl) (.t rfl) (.p (.move (.t rfl) (.p (.bS2 G_api_Item.l1 G_api_Item.l4 rfl ty27 fo27 (fun c1 c4 => (⟨0, c1, 0, default, c4, default⟩ : G_api_Item)) (fun _ _ => rfl) rfl rfl rfl (.i rfl) (.t rfl) (.h (.buildSlice (α := G_api_Item) ty27 Tryd.underlying50 (.cons (.t rfl) (.cons (.t rfl) (.cons (.t rfl) .nil))) rfl (by decide) fun b134 => ?_)))))))))))
    refine .p (.lenOwn Tryd.underlying50 rfl .z (.p (.move (.i rfl) ?_)))
    refine .frzOwn hC .z ?_
    refine .as 134 rfl .z ?_
    refine .nil ?_
    refine .block ?_
    refine .loopR (α := Nat) [(12, _), (13, _), (134, _), (135, _)] (fun j R => (136, .v (j : Int)) :: R) (Function.const _ _) (fun j => j ≤ 3) (fun j => 3 - j) (0) (.cons rfl (.cons rfl (.cons rfl (.cons rfl (.nil _))))) ?_ (.cons rfl (.cons rfl (.cons rfl (.cons rfl (.cons rfl (.nil _)))))) (rfl) fun j hF => ?_
    · simp
    refine .seq ?_
    refine .region rfl ?_
    refine .p (.lss (.t rfl) (.t rfl) ?_)
    refine .nil ?_
    refine .seq ?_
    refine .condP (.t rfl) (fun hc137 => ?_) (fun hc137 => ?_)
    · refine .skip ?_
      refine .seq ?_
      refine .block ?_
      refine .seq ?_
      refine .region rfl ?_
      refine .p (.idx ty27 Tryd.underlying50 (.t rfl) (.t rfl) (by first | omega | (simp; done) | (simp; omega) | (simp at *; omega)) (by first | omega | (simp; done) | (simp; omega) | (simp at *; omega)) (.p (.ldP ty27 (.t rfl) (.h (.alloc ty27 fun b27 => .n (.stW ty27 (.t rfl) (.t rfl) .z ?_))))))
      refine .nil ?_
      refine .seq ?_
      refine .region rfl ?_
      refine .p (.ldP ty33 (.t rfl) (.p (.ldP ty24 (.t rfl) (.p (.ldW ty27 (.t rfl) .z (.p (.call1 hG (epoch_c _ _ _ hq2) (.cons (.t rfl) (.cons (.t rfl) (.cons (.t rfl) .nil))) (.p (.move (.t rfl) (.p (.ext2_0 (.t rfl) ?_)))))))))))
      refine .p (.ext2_1 (.t rfl) (.h (.alloc ty38 fun b28 => .n (.stW ty38 (.t rfl) (.t rfl) .z (.p (.assign (.t rfl) ?_))))))
      refine .nil ?_
      refine .seq ?_
      refine .region rfl ?_
      refine .p (.ldP ty33 (.t rfl) (.p (.ldP ty24 (.t rfl) (.p (.ldW ty27 (.t rfl) (.s .z) (.p (.call1 hG (rEpoch_c _ _ _ hq2) (.cons (.t rfl) (.cons (.t rfl) (.cons (.t rfl) .nil))) (.p (.move (.t rfl) (.p (.ext2_0 (.t rfl) ?_)))))))))))
      refine .p (.ext2_1 (.t rfl) (.h (.alloc ty38 fun b30 => .n (.stW ty38 (.t rfl) (.t rfl) .z (.p (.assign (.t rfl) ?_))))))
      refine .nil ?_
      refine .seq ?_
      refine .region rfl ?_
      refine .p (.ldW ty38 (.t rfl) (.s .z) (.p (.ldW ty38 (.t rfl) .z (.p (.neqT eqT38 (by decide) rfl (by kernel_rfl) (.t rfl) (.t rfl) (.p (.move (.t rfl) ?_)))))))
      refine .go 157 rfl (.t rfl) (fun hg158 => .move (.t rfl) rfl) ?_
      refine .go 157 rfl (.t rfl) (fun hg159 => .move (.t rfl) rfl) ?_
      refine .go 157 rfl (.t rfl) (fun hg160 => .neqI (.o rfl (beq_iff_eq.2 hg160)) (.o rfl (beq_iff_eq.2 hg160)) rfl) ?_
      refine .p (.pickOr (.t rfl) (fun hp => (.o rfl (beq_iff_eq.2 hp))) ?_)
      refine .nil ?_
      refine .cond (.t rfl) (fun hc161 => (by exfalso; simp at hc161)) (fun hc161 => ?_)
      refine .skip ?_
      refine .drop ?_
      refine .drop ?_
      refine .drop ?_
      refine .region rfl ?_
      refine .p (.add (.t rfl) (.i rfl) (by first | omega | (simp; done) | (simp; omega) | (simp at *; omega)) (by first | omega | (simp; done) | (simp; omega) | (simp at *; omega)) (.p (.move (.t rfl) ?_)))
      refine .nil ?_
      refine ⟨j + 1, .cons rfl (.cons rfl (.cons rfl (.cons rfl (.cons rfl (.nil _))))), rfl, ?_, by simp at hc137; omega⟩
      simp at hc137; omega
    · refine .exit ?_
      refine .seq ?_
      refine .region rfl ?_
      refine .p (.call1 hG (awake24_c) .nil (.p (.assign (.t rfl) ?_)))
      refine .nil ?_
      refine .ret ?_
      refine ⟨_, .r1 rfl (.tmp rfl), ?_⟩
      rfl
end Go.Proofs.YtkjpkdpnlioffaaDoor
set_option linter.unusedVariables false
namespace Go.Fl
open Go.ChangeShapes Go.WideShapes Go.ChangeAt Go.RowKit
def imOf (W : World) : Im := fun b => W.heap[b]?
theorem mem_imOf (W : World) : Mem (imOf W) [] W := ⟨fun b o h => h, by simp, by simp, by simp⟩
theorem Fun.calls {P : Program} {f : FuncId} {args : Array Value} {W : World} {r : Value} (h : Fun P f args (imOf W) (fun v _ => v = r)) :
    Calls P f args W (fun e W' => e = .returned r ∧ Below W.heap.size W W') :=
  (h.run W (mem_imOf W)).mono fun e w' ⟨v, J, he, hc, _, _, _, hv⟩ => ⟨by rw [he, hv], ⟨hc.os, hc.tape, hc.output, hc.size, fun k hk => hc.block k hk (by simp)⟩⟩
theorem cell_plain {W : World} {x : Addr} {v : Value} (h : W.cell? x = some v) : x.spot = none ∧ ∃ cs e fr, W.heap[x.block]? = some (.cells cs e fr) ∧ cs[x.off]? = some v := by
  unfold World.cell? at h
  split at h
  · rename_i c e fr heq
    split at h
    · cases h
    · rename_i hs
      exact ⟨by simpa using hs, c, e, fr, heq, h⟩
  · cases h
theorem words_laid {P : Program} {W : World} {n : String} {d : DataW Unit} {l : List UInt32} {g : Nat} {T E : TypeId} (hg : P.globalNamed n = some g) (ht : (P.globals[g]?).map (·.type) = some T) (hT : P.underlying T = some (.array l.length E))
    (hE : P.underlying E = some (.int .u32)) (hone : P.cellsOf E = 1) (hl : 0 < l.length) (hd : d = .agg (l.map fun k => .lit (.int .u32 (k.toNat : Int)))) (h : laidMet P [(n, d)] W) : Cells (imOf W) g 0 (l.map u32) := by
  obtain ⟨ps, ⟨g2, t, cs, fuel, p, q, hg2, ht2, hvar, htr, _, _⟩, _⟩ := h
  obtain rfl := Option.some.inj (hg.symm.trans hg2)
  obtain rfl := Option.some.inj (ht.symm.trans ht2)
  obtain ⟨xs, m, _, hx, hlen, hxl, hel⟩ := DataW.trod_array hT htr
  have hxd : xs.map (·.1) = l.map fun k => DataW.lit (.int .u32 (k.toNat : Int)) := by
    have := (Prod.mk.inj hx).1
    rw [hd] at this
    injection this with h2
    exact h2.symm
  have hcell : ∀ (i : Nat) (v : Value), (l.map u32)[i]? = some v → cs[i]? = some v := by
    intro i v hv
    have hi : i < l.length := by simpa using (List.getElem?_eq_some_iff.1 hv).1
    have h1 := hel i hi
    rw [hone] at h1
    have hxi : xs[i]? = some (xs[i]'(by omega)) := List.getElem?_eq_getElem (by omega)
    rw [hxi] at h1
    obtain ⟨k, hk1, hk2, _⟩ := DataW.trod_int hE h1
    have hfst : (xs.map (·.1))[i]? = some (DataW.lit (.int .u32 k)) := by rw [List.getElem?_map, hxi, Option.map_some, hk2]
    rw [hxd, List.getElem?_map, List.getElem?_eq_getElem hi] at hfst
    simp at hfst
    have hci : cs.toList[i]? = some (.int .u32 k) := by
      have : ((cs.toList.drop (i * 1)).take 1)[0]? = some (.int .u32 k) := by rw [hk1]; rfl
      simpa [List.getElem?_take, List.getElem?_drop] using this
    rw [List.getElem?_map, List.getElem?_eq_getElem hi, Option.map_some] at hv
    have hv := Option.some.inj hv
    rw [← hv, u32, hfst]
    simpa using hci
  have h0 : ∃ v, (l.map u32)[0]? = some v := ⟨_, List.getElem?_eq_getElem (by simpa using hl)⟩
  obtain ⟨v0, hv0⟩ := h0
  have hc0 := World.var?_cell hg hvar 0
  rw [hcell 0 v0 hv0] at hc0
  obtain ⟨_, cs2, e, fr, hob, _⟩ := cell_plain hc0
  refine ⟨cs2, e, fr, hob, fun i v hv => ?_⟩
  have h3 := World.var?_cell hg hvar i
  rw [hcell i v hv] at h3
  obtain ⟨_, cs3, e3, fr3, hob3, hv3⟩ := cell_plain h3
  have : Obj.cells cs2 e fr = Obj.cells cs3 e3 fr3 := Option.some.inj (hob.symm.trans hob3)
  cases this
  simpa using hv3
end Go.Fl
set_option linter.unusedVariables false
namespace Go.Ab
open Go.Fl Go.RowKit Go.ChangeShapes Go.WideShapes Go.ChangeAt
open Rep (rep)
def Opens (P : Program) (T : TypeId) (α : Type) [Rep α] : Prop := P.cellsOf T = Rep.size α ∧
  ∀ (H : Type) (enc : TypeId × Value → H) (W : World) (base : Nat) (spare : Nat → Bool) (held : Bool) (fuel : Nat) (cs : List Value) (x : DataW H × List MemPlace), DataW.trod enc P W base spare held fuel T cs = some x → ∃ a : α, rep (imOf W) a cs
variable {P : Program} {T E : TypeId}
theorem Opens.i64 (hT : P.underlying T = some (.int .i64)) (hc : P.cellsOf T = 1) : Opens P T Int := ⟨hc, fun H enc W base spare held fuel cs x h => by
  obtain ⟨n, rfl, _, hw⟩ := DataW.trod_int hT h
  simp [Lit.wf, IntKind.min, IntKind.max, IntKind.signed, IntKind.bits] at hw
  exact ⟨n, rfl, by omega, by omega⟩⟩
theorem Opens.u8 (hT : P.underlying T = some (.int .u8)) (hc : P.cellsOf T = 1) : Opens P T UInt8 := ⟨hc, fun H enc W base spare held fuel cs x h => by
  obtain ⟨n, rfl, _, hw⟩ := DataW.trod_int hT h
  simp [Lit.wf, IntKind.min, IntKind.max, IntKind.signed, IntKind.bits] at hw
  refine ⟨UInt8.ofNat n.toNat, ?_⟩
  show [Value.int .u8 n] = [Fl.u8 _]
  unfold Fl.u8
  congr 2; simp; omega⟩
theorem add_add (a : Addr) (i j : Nat) : (a.add i).add j = a.add (i + j) := by
  unfold Addr.add
  rcases a with ⟨b, o, _ | s⟩ <;> by_cases hi : i = 0 <;> by_cases hj : j = 0 <;> simp [hi, hj, Nat.add_assoc]
theorem Opens.slice {α : Type} {r : Rep α} (hT : P.underlying T = some (.slice E)) (hc : P.cellsOf T = 1) (hE : Opens P E α) (hp : 0 < Rep.size α) : Opens P T (List α) := ⟨hc, fun H enc W base spare held fuel cs x h => by
  rcases DataW.trod_slice hT h with ⟨rfl, _⟩ | ⟨a, len, cap, elems, rest, n, _, rfl, _, hb, hl, hm, hel, hget, _⟩
  · exact ⟨[], _, rfl, [], Sl.nil _ _, rfl⟩
  · have key : ∀ k, k ≤ len → ∃ (l : List α) (xs : List Value), l.length = k ∧ repL (imOf W) l xs ∧ ∀ i v, xs[i]? = some v → W.cell? (a.add i) = some v := by
      intro k
      induction k with
      | zero => exact fun _ => ⟨[], [], rfl, rfl, fun i v hv => by simp at hv⟩
      | succ k ih =>
        intro hk
        obtain ⟨l, xs, h1, h2, h3⟩ := ih (by omega)
        have hg := hget k (by omega)
        rw [List.getElem?_eq_getElem (by omega)] at hg
        obtain ⟨c, hc1, hc2⟩ := Option.bind_eq_some_iff.1 hg
        obtain ⟨_, hcl, hcell⟩ := World.cells?_some hc1
        obtain ⟨y, hy⟩ := hE.2 H enc W base spare held n c _ hc2
        refine ⟨l ++ [y], xs ++ c, by simp [h1], h2.append (.one hy), fun i v hv => ?_⟩
        have hxl : xs.length = k * Rep.size α := by rw [h2.len, h1]
        by_cases hi : i < xs.length
        · rw [List.getElem?_append_left hi] at hv; exact h3 i v hv
        · rw [List.getElem?_append_right (by omega)] at hv
          have hj := (List.getElem?_eq_some_iff.1 hv).1
          have := hcell (i - xs.length) (by omega)
          rw [hv, hE.1, add_add, ← hxl, show xs.length + (i - xs.length) = i by omega] at this
          exact this
    obtain ⟨l, xs, h1, h2, h3⟩ := key len (Nat.le_refl _)
    have hxl := h2.len
    refine ⟨l, _, rfl, xs, ⟨_, _, by rw [h1], h2.len, by omega, hm, (fun h => by cases h), fun hne => ?_⟩, h2⟩
    rcases a with ⟨ab, ao, ags⟩
    obtain ⟨v0, hv0⟩ : ∃ v, xs[0]? = some v := ⟨_, List.getElem?_eq_getElem (List.length_pos_iff.2 hne)⟩
    have hc0 := h3 0 v0 hv0
    obtain ⟨hsp, cs, e, fr, hob, _⟩ := cell_plain hc0
    have hsp2 : ags = none := by
      cases ags with
      | none => rfl
      | some q =>
        unfold Addr.add at hsp
        simp at hsp
    subst hsp2
    rw [Addr.add_plain] at hob
    have hob : W.heap[ab]? = some (Obj.cells cs e fr) := hob
    refine ⟨ab, ao, rfl, cs, e, fr, hob, fun i v hv => ?_⟩
    have hcv := h3 i v hv
    rw [Addr.add_plain] at hcv
    obtain ⟨_, cs2, e2, fr2, hob2, hv2⟩ := cell_plain hcv
    have : Obj.cells cs e fr = Obj.cells cs2 e2 fr2 := Option.some.inj (hob.symm.trans hob2)
    cases this
    exact hv2⟩
theorem Opens.array {α : Type} {r : Rep α} {n : Nat} (hT : P.underlying T = some (.array n E)) (hc : P.cellsOf T = n * Rep.size α) (hE : Opens P E α) : Opens P T (Arr n α) := ⟨hc, fun H enc W base spare held fuel cs x h => by
  obtain ⟨xs, m, _, _, hlen, hxl, hel⟩ := DataW.trod_array hT h
  have key : ∀ k, k ≤ n → ∃ l : List α, l.length = k ∧ repL (imOf W) l (cs.take (k * Rep.size α)) := by
    intro k
    induction k with
    | zero => exact fun _ => ⟨[], rfl, by simp [repL]⟩
    | succ k ih =>
      intro hk
      obtain ⟨l, h1, h2⟩ := ih (by omega)
      have hg := hel k (by omega)
      rw [List.getElem?_eq_getElem (by omega), hE.1] at hg
      obtain ⟨y, hy⟩ := hE.2 H enc W base spare held m _ _ hg
      refine ⟨l ++ [y], by simp [h1], ?_⟩
      have e : cs.take ((k + 1) * Rep.size α) = cs.take (k * Rep.size α) ++ (cs.drop (k * Rep.size α)).take (Rep.size α) := by
        rw [Nat.succ_mul, List.take_add]
      rw [e]
      exact h2.append (.one hy)
  obtain ⟨l, h1, h2⟩ := key n (Nat.le_refl _)
  refine ⟨⟨l, h1⟩, ?_⟩
  show repL (imOf W) l cs
  rwa [List.take_of_length_le (by rw [hlen, hc]; exact Nat.le_refl _)] at h2⟩
inductive OpensF (P : Program) : List Field → Nat → (β : Type) → Rep β → Prop
  | nil {off : Nat} : OpensF P [] off Unit inferInstance
  | cons {f : Field} {fs : List Field} {off : Nat} {α β : Type} {r : Rep α} {s : Rep β} (h1 : f.offset = off) (h2 : Opens P f.type α) (t : OpensF P fs (off + Rep.size α) β s) : OpensF P (f :: fs) off (α × β) inferInstance
theorem OpensF.run {fs : List Field} {off : Nat} {β : Type} {s : Rep β} (h : OpensF P fs off β s) {H : Type} {enc : TypeId × Value → H} {W : World} {base : Nat} {spare : Nat → Bool} {held : Bool} {n : Nat} {cs : List Value} (hl : cs.length = off + Rep.size β)
    (hg : ∀ (i : Nat) (f : Field), fs[i]? = some f → ∃ x, DataW.trod enc P W base spare held n f.type ((cs.drop f.offset).take (P.cellsOf f.type)) = some x) : ∃ b : β, rep (imOf W) b (cs.drop off) := by
  induction h with
  | nil => exact ⟨(), List.drop_eq_nil_of_le (by rw [hl]; exact Nat.le_refl _)⟩
  | @cons f fs off α β r s h1 h2 t ih =>
    obtain ⟨x, hx⟩ := hg 0 f rfl
    rw [h1, h2.1] at hx
    obtain ⟨y, hy⟩ := h2.2 H enc W base spare held n _ _ hx
    obtain ⟨b, hb⟩ := ih (by rw [hl]; show off + (Rep.size α + Rep.size β) = _; omega) (fun i f' hf => hg (i + 1) f' (by simpa using hf))
    refine ⟨(y, b), _, _, ?_, hy, hb⟩
    rw [← List.drop_drop, List.take_append_drop]
theorem Opens.struct {S β : Type} [s : Rep β] {fs : Array Field} (f : S → β) (g : β → S) (hfg : ∀ b, f (g b) = b) (hT : P.underlying T = some (.struct fs)) (hc : P.cellsOf T = Rep.size β) (h : OpensF P fs.toList 0 β s) : @Opens P T S (Rep.via f) :=
  letI : Rep S := Rep.via f
  ⟨hc, fun H enc W base spare held fuel cs x hx => by
    obtain ⟨xs, n, _, _, hlen, hxl, hel⟩ := DataW.trod_struct hT hx
    obtain ⟨b, hb⟩ := h.run (W := W) (enc := enc) (base := base) (spare := spare) (held := held) (n := n) (cs := cs) (by rw [hlen, hc]; omega) (fun i f hf => by
      have hf' : fs[i]? = some f := by simpa using hf
      have := hel i f hf'
      have hi := (Array.getElem?_eq_some_iff.1 hf').1
      exact ⟨_, this.trans (List.getElem?_eq_getElem (by omega))⟩)
    exact ⟨g b, by show rep (imOf W) (f (g b)) cs; rw [hfg]; simpa using hb⟩⟩
theorem Opens.val {α : Type} {r : Rep α} (h : Opens P T α) {H : Type} {enc : TypeId × Value → H} {W : World} {base : Nat} {spare : Nat → Bool} {held : Bool} {v : Value} {d : DataW H} {p : List MemPlace} (ht : DataW.Trod enc P W base spare held T v d p)
    (hv : ∀ cs : List Value, v.cells.toList = cs → v = asV (Rep.agg α) cs) : ∃ a : α, RepV (imOf W) (.v a) v := by
  obtain ⟨fuel, hf⟩ := ht
  obtain ⟨a, ha⟩ := h.2 H enc W base spare held fuel _ _ hf
  exact ⟨a, _, ha, hv _ rfl⟩
theorem FunA.calls {G : Gl} {f : FuncId} {ags : List AV} {vs : List Value} {W : World} (h : FunA G P f ags (fun r => r = .v true)) (hG : G.p (imOf W)) (hv : RepVs (imOf W) ags vs) :
    Calls P f vs.toArray W (fun e W' => e = .returned (.bool true) ∧ Below W.heap.size W W') :=
  Fun.calls ((h (imOf W) vs hG hv).mono fun v J _ ⟨r, h1, h2⟩ => by
    subst h2
    obtain ⟨cs, rfl, rfl⟩ := h1
    rfl)
theorem okWide_agg {dd : TypeDesc} (hT : P.underlying T = some dd) (hr : isRow dd = true) {W : World} {r : Reach} {base : Nat} {v : Value} (h : Value.okWide P W r base T v) : ∃ cs, v = .agg cs := by
  unfold Value.okWide at h
  rw [hT] at h
  cases dd <;> first | (simp [isRow] at hr; done) | (obtain ⟨cs, h1, _⟩ := h; exact ⟨cs, h1⟩)
theorem form_one {v : Value} (h : v.cells = #[v]) : ∀ cs : List Value, v.cells.toList = cs → v = asV false cs := fun cs hc => by
  rw [h] at hc; subst hc; rfl
theorem form_agg {xs : Array Value} : ∀ cs : List Value, (Value.agg xs).cells.toList = cs → Value.agg xs = asV true cs := fun cs hc => by
  subst hc; simp [asV, Value.cells]
end Go.Ab
set_option maxRecDepth 1000000
set_option linter.unusedVariables false
namespace Go.Proofs.YtkjpkdpnlioffaaDoor
open Go.Fl Go.Ab Go.Mac Go.Sha
open Go.ChangeShapes Go.WideShapes Go.ChangeAt Go.RowKit
theorem ownK : ownKnob Tryd.prog.godebug = none := by kernel_rfl
theorem laidOutK : laidOutB Tryd.prog = true := by kernel_rfl
noncomputable def kWorld (os : Os) : World :=
  let w0 := World.holding Tryd.prog os ⟨#[], #[], []⟩
  { w0 with heap := w0.heap.modify 1 fun
      | .cells _ t frozen => .cells (kk.map Fl.u32).toArray t frozen
      | o => o }
def kLaid : List (String × DataW Unit) := [("macaroon/sha.k", Rows.laid_macaroon_sha_k)]
set_option maxRecDepth 100000 in
theorem k_met (os : Os) (args : Array Value) : laidMet Tryd.prog kLaid ((kWorld os).forCall (fun _ _ => 0) ⟨#[], args, []⟩).memory :=
  laidMet_of_run' 8 (by kernel_rfl) (by kernel_rfl)
set_option maxRecDepth 100000 in
theorem k_cells {W : World} (h : laidMet Tryd.prog kLaid W) : gl.p (imOf W) :=
  words_laid (l := kk) (T := 127) (E := 117) (by kernel_rfl) (by kernel_rfl) Tryd.underlying127 Tryd.underlying117 (by kernel_rfl) (by decide) rfl h
theorem op3 : Opens Tryd.prog 3 Int := .i64 Tryd.underlying3 (by kernel_rfl)
theorem op22 : Opens Tryd.prog 22 (List Int) := .slice Tryd.underlying22 (by kernel_rfl) op3 (by decide)
theorem op5 : Opens Tryd.prog 5 UInt8 := .u8 Tryd.underlying5 (by kernel_rfl)
theorem op24 : Opens Tryd.prog 24 (Arr 32 UInt8) := .array Tryd.underlying24 (by kernel_rfl) op5
theorem op25 : Opens Tryd.prog 25 (List UInt8) := .slice Tryd.underlying25 (by kernel_rfl) op5 (by decide)
theorem op27 : Opens Tryd.prog 27 G_api_Item := .struct G_api_Item.f (fun b => ⟨b.1, b.2.1, b.2.2.1, b.2.2.2.1, b.2.2.2.2.1, b.2.2.2.2.2.1⟩) (fun _ => rfl) Tryd.underlying27 (by kernel_rfl) (.cons rfl op3 (.cons rfl op3 (.cons rfl op3 (.cons rfl op24 (.cons rfl op25 (.cons rfl op24 .nil))))))
end Go.Proofs.YtkjpkdpnlioffaaDoor
