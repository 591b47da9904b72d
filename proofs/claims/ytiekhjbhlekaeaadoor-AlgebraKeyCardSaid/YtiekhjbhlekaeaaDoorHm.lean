/- Walks of package hmac's small functions. -/
import Derived.Test.YtiekhjbhlekaeaaDoorShaA
set_option maxRecDepth 1000000
set_option linter.unusedVariables false
set_option linter.unusedSimpArgs false
namespace Go.Proofs.YtiekhjbhlekaeaaDoor
open Go.Fl Go.Ab Go.Mac
theorem u8_or_zero (a b : UInt8) : (a ||| b = 0) ↔ (a = 0 ∧ b = 0) := by
  rw [← UInt8.toBitVec_inj, ← UInt8.toBitVec_inj, ← UInt8.toBitVec_inj]
  simp only [UInt8.toBitVec_or, UInt8.toBitVec_ofNat]
  exact BitVec.or_eq_zero_iff
theorem u8_xor_zero (a b : UInt8) : (a ^^^ b = 0) ↔ a = b := by
  rw [← UInt8.toBitVec_inj, ← UInt8.toBitVec_inj]
  simp only [UInt8.toBitVec_xor, UInt8.toBitVec_ofNat]
  exact BitVec.xor_eq_zero_iff
theorem take_eq_succ {α : Type} (a b : List α) (k : Nat) (h1 : k < a.length) (h2 : k < b.length) : (a.take (k + 1) = b.take (k + 1)) ↔ (a.take k = b.take k ∧ a[k] = b[k]) := by
  rw [List.take_succ_eq_append_getElem h1, List.take_succ_eq_append_getElem h2]
  constructor
  · intro h
    have h3 := List.append_inj h (by simp; omega)
    exact ⟨h3.1, by simpa using h3.2⟩
  · rintro ⟨h3, h4⟩
    rw [h3, h4]
theorem Equal_c (a b : List UInt8) : FunA gl Tryd.prog 69 [.v a, .v b] (fun r => r = .v (decide (a = b))) := by
  refine FunA.intro Tryd.func69 rfl (by kernel_rfl) 31 rfl rfl _ rfl fun C hC hG => ?_
  refine .seq ?_
  refine .region rfl ?_
  refine .p (.assign .b ?_)
  refine .nil ?_
  refine .seq ?_
  refine .seq ?_
  refine .lenLe 0 rfl fun hl0 => ?_
  refine .region rfl ?_
  refine .p (.move (.t rfl) (.p (.len Tryd.underlying23 (.t rfl) (.p (.move (.t rfl) (.p (.len Tryd.underlying23 (.t rfl) (.p (.neqI (.t rfl) (.t rfl) ?_)))))))))
  refine .nil ?_
  refine .condP (.t rfl) (fun hc11 => ?_) (fun hc11 => ?_)
  · refine .seq ?_
    refine .region rfl ?_
    refine .p (.assign .b ?_)
    refine .nil ?_
    refine .ret ?_
    refine ⟨_, .r1 rfl (.tmp rfl), ?_⟩
    exact congrArg AV.v (by rw [eq_comm, decide_eq_false_iff_not]; rintro rfl; exact hc11 rfl)
  · refine .skip ?_
    refine .seq ?_
    refine .region rfl ?_
    refine .p (.assign (.u8 0 rfl) ?_)
    refine .nil ?_
    refine .seq ?_
    refine .seq ?_
    refine .region rfl ?_
    refine .p (.move (.t rfl) (.p (.len Tryd.underlying23 (.t rfl) (.p (.move (.i rfl) ?_)))))
    refine .nil ?_
    refine .block ?_
    refine .loopR (α := Nat × UInt8) [(0, _), (1, _), (13, _)] (fun x R => (5, .v x.2) :: (14, .v (x.1 : Int)) :: R) (fun x => []) (fun x => x.1 ≤ a.length ∧ (x.2 = 0 ↔ a.take x.1 = b.take x.1)) (fun x => a.length - x.1) ((0, 0)) (.cons rfl (.cons rfl (.cons rfl (.nil _)))) ?_ (.cons rfl (.cons rfl (.cons rfl (.cons rfl (.cons rfl (.nil _)))))) (rfl) fun x hF => ?_
    · simp
    obtain ⟨k, e⟩ := x
    obtain ⟨h1, h2⟩ := hF
    dsimp only at h1 h2 ⊢
    refine .seq ?_
    refine .region rfl ?_
    refine .p (.lss (.t rfl) (.t rfl) ?_)
    refine .nil ?_
    refine .seq ?_
    refine .condP (.t rfl) (fun hc15 => ?_) (fun hc15 => ?_)
    · refine .skip ?_
      refine .seq ?_
      refine .block ?_
      refine .seq ?_
      refine .region rfl ?_
      refine .p (.move (.t rfl) (.p (.assign (.t rfl) ?_)))
      refine .nil ?_
      refine .draw (by kernel_rfl) 12 [[], [], [], [(18, 1), (19, 2)], [(20, 3)], [], [], [(22, 5), (23, 6)], [(24, 7)], [(21, 4), (25, 8)], [(17, 0), (26, 9)], [(27, 10)]] rfl (by kernel_rfl) rfl ?_
      refine ⟨_, OpP.move (.t rfl) rfl, ?_⟩
      refine ⟨_, OpP.move (.t rfl) rfl, ?_⟩
      refine ⟨_, OpP.move (.t rfl) rfl, ?_⟩
      refine ⟨_, OpP.idx ty5 Tryd.underlying23 (.t rfl) (.t rfl) (by first | omega | (simp; done) | (simp; omega) | (simp at *; omega)) (by first | omega | (simp; done) | (simp; omega) | (simp at *; omega)) rfl, ?_⟩
      refine ⟨_, OpP.ldP ty5 (.t rfl) rfl, ?_⟩
      refine ⟨_, OpP.move (.t rfl) rfl, ?_⟩
      refine ⟨_, OpP.move (.t rfl) rfl, ?_⟩
      refine ⟨_, OpP.idx ty5 Tryd.underlying23 (.t rfl) (.t rfl) (by first | omega | (simp; done) | (simp; omega) | (simp at *; omega)) (by first | omega | (simp; done) | (simp; omega) | (simp at *; omega)) rfl, ?_⟩
      refine ⟨_, OpP.ldP ty5 (.t rfl) rfl, ?_⟩
      refine ⟨_, OpP.xor8 (.t rfl) (.t rfl) rfl, ?_⟩
      refine ⟨_, OpP.or8 (.t rfl) (.t rfl) rfl, ?_⟩
      refine ⟨_, OpP.assign (.t rfl) rfl, ?_⟩
      show wpB _ _ _ _ _ _ ((5, _) :: (27, _) :: (26, _) :: (25, _) :: (24, _) :: (23, _) :: (22, _) :: (21, _) :: (20, _) :: (19, _) :: (18, _) :: (17, _) :: _) _
      refine .nil ?_
      refine .region rfl ?_
      refine .p (.add (.t rfl) (.i rfl) (by first | omega | (simp; done) | (simp; omega) | (simp at *; omega)) (by first | omega | (simp; done) | (simp; omega) | (simp at *; omega)) (.p (.move (.t rfl) ?_)))
      refine .nil ?_
      refine ⟨(k + 1, _), .cons rfl (.cons rfl (.cons rfl (.cons rfl (.cons rfl (.nil _))))), rfl, ?_, by dsimp only; omega⟩
      refine ⟨by dsimp only; omega, ?_⟩; dsimp only; rw [take_eq_succ a b k (by omega) (by omega), u8_or_zero, u8_xor_zero, h2]; rfl
    · refine .exit ?_
      refine .seq ?_
      refine .region rfl ?_
      refine .p (.move (.t rfl) (.p (.eql8 (.t rfl) (.u8 0 rfl) (.p (.assign (.t rfl) ?_)))))
      refine .nil ?_
      refine .ret ?_
      refine ⟨_, .r1 rfl (.tmp rfl), ?_⟩
      exact congrArg AV.v (by rw [decide_eq_decide, h2, List.take_of_length_le (by omega), List.take_of_length_le (by omega)])
theorem Same_c (a b : List UInt8) : FunA gl Tryd.prog 34 [.v a, .v b] (fun r => r = .v (decide (a = b))) := by
  refine FunA.intro Tryd.func34 rfl (by kernel_rfl) 26 rfl rfl _ rfl fun C hC hG => ?_
  refine .seq ?_
  refine .region rfl ?_
  refine .p (.assign .b ?_)
  refine .nil ?_
  refine .seq ?_
  refine .seq ?_
  refine .lenLe 0 rfl fun hl0 => ?_
  refine .region rfl ?_
  refine .p (.move (.t rfl) (.p (.len Tryd.underlying23 (.t rfl) (.p (.move (.t rfl) (.p (.len Tryd.underlying23 (.t rfl) (.p (.neqI (.t rfl) (.t rfl) ?_)))))))))
  refine .nil ?_
  refine .condP (.t rfl) (fun hc10 => ?_) (fun hc10 => ?_)
  · refine .seq ?_
    refine .region rfl ?_
    refine .p (.assign .b ?_)
    refine .nil ?_
    refine .ret ?_
    refine ⟨_, .r1 rfl (.tmp rfl), ?_⟩
    exact congrArg AV.v (by rw [eq_comm, decide_eq_false_iff_not]; rintro rfl; exact hc10 rfl)
  · refine .skip ?_
    refine .seq ?_
    refine .seq ?_
    refine .region rfl ?_
    refine .p (.assign (.i rfl) ?_)
    refine .nil ?_
    refine .block ?_
    refine .loopR (α := Nat) [(0, _), (1, _)] (fun k R => (5, .v (k : Int)) :: R) (fun k => []) (fun k => k ≤ a.length ∧ a.take k = b.take k) (fun k => a.length - k) (0) (.cons rfl (.cons rfl (.nil _))) ?_ (.cons rfl (.cons rfl (.cons rfl (.nil _)))) (rfl) fun k hF => ?_
    · simp
    obtain ⟨h1, h2⟩ := hF
    refine .seq ?_
    refine .seq ?_
    refine .region rfl ?_
    refine .p (.move (.t rfl) (.p (.move (.t rfl) (.p (.len Tryd.underlying23 (.t rfl) (.p (.lss (.t rfl) (.t rfl) ?_)))))))
    refine .nil ?_
    refine .condP (.t rfl) (fun hc14 => ?_) (fun hc14 => ?_)
    · refine .skip ?_
      refine .seq ?_
      refine .block ?_
      refine .seq ?_
      refine .draw (by kernel_rfl) 9 [[], [], [(17, 0), (18, 1)], [(19, 2)], [], [], [(21, 4), (22, 5)], [(23, 6)], [(20, 3), (24, 7)]] rfl (by kernel_rfl) rfl ?_
      refine ⟨_, OpP.move (.t rfl) rfl, ?_⟩
      refine ⟨_, OpP.move (.t rfl) rfl, ?_⟩
      refine ⟨_, OpP.idx ty5 Tryd.underlying23 (.t rfl) (.t rfl) (by first | omega | (simp; done) | (simp; omega) | (simp at *; omega)) (by first | omega | (simp; done) | (simp; omega) | (simp at *; omega)) rfl, ?_⟩
      refine ⟨_, OpP.ldP ty5 (.t rfl) rfl, ?_⟩
      refine ⟨_, OpP.move (.t rfl) rfl, ?_⟩
      refine ⟨_, OpP.move (.t rfl) rfl, ?_⟩
      refine ⟨_, OpP.idx ty5 Tryd.underlying23 (.t rfl) (.t rfl) (by first | omega | (simp; done) | (simp; omega) | (simp at *; omega)) (by first | omega | (simp; done) | (simp; omega) | (simp at *; omega)) rfl, ?_⟩
      refine ⟨_, OpP.ldP ty5 (.t rfl) rfl, ?_⟩
      refine ⟨_, OpP.neq8 (.t rfl) (.t rfl) rfl, ?_⟩
      show wpB _ _ _ _ _ _ ((25, _) :: (24, _) :: (23, _) :: (22, _) :: (21, _) :: (20, _) :: (19, _) :: (18, _) :: (17, _) :: _) _
      refine .nil ?_
      refine .condP (.t rfl) (fun hc25 => ?_) (fun hc25 => ?_)
      · refine .seq ?_
        refine .region rfl ?_
        refine .p (.assign .b ?_)
        refine .nil ?_
        refine .ret ?_
        refine ⟨_, .r1 rfl (.tmp rfl), ?_⟩
        exact congrArg AV.v (by rw [eq_comm, decide_eq_false_iff_not]; rintro rfl; exact hc25 rfl)
      · refine .skip ?_
        refine .region rfl ?_
        refine .p (.move (.t rfl) (.p (.add (.t rfl) (.i rfl) (by first | omega | (simp; done) | (simp; omega) | (simp at *; omega)) (by first | omega | (simp; done) | (simp; omega) | (simp at *; omega)) (.p (.assign (.t rfl) ?_)))))
        refine .nil ?_
        refine ⟨k + 1, .cons rfl (.cons rfl (.cons rfl (.nil _))), rfl, ?_, by omega⟩
        exact ⟨by omega, (take_eq_succ a b k (by omega) (by omega)).2 ⟨h2, by simpa using hc25⟩⟩
    · refine .exit ?_
      refine .seq ?_
      refine .region rfl ?_
      refine .p (.assign .b ?_)
      refine .nil ?_
      refine .ret ?_
      refine ⟨_, .r1 rfl (.tmp rfl), ?_⟩
      refine congrArg AV.v (by rw [eq_comm, decide_eq_true_eq]; rwa [List.take_of_length_le (by omega), List.take_of_length_le (by omega)] at h2)
theorem Within_c (x n : Int) (h0 : 0 < n) (h1 : n ≤ 4611686018427387904) : FunA gl Tryd.prog 35 [.v x, .v n] (fun r => r = .v (x % n)) := by
  have h2 := Int.tmod_lt_of_pos x h0
  have h3 : -n < x.tmod n := Int.lt_tmod_of_pos x h0
  have h4 : (x.tmod n + n) % n = x % n := by
    rw [Int.add_emod_right, Int.tmod_def, Int.sub_mul_emod_self_left]
  refine FunA.intro Tryd.func35 rfl (by kernel_rfl) 12 rfl rfl _ rfl fun C hC hG => ?_
  refine .seq ?_
  refine .region rfl ?_
  refine .p (.assign (.i rfl) ?_)
  refine .nil ?_
  refine .seq ?_
  refine .region rfl ?_
  refine .p (.move (.t rfl) (.p (.move (.t rfl) (.p (.tmod (.t rfl) (.t rfl) (by omega) (.p (.move (.t rfl) (.p (.add (.t rfl) (.t rfl) (by first | omega | (simp; done) | (simp; omega) | (simp at *; omega)) (by first | omega | (simp; done) | (simp; omega) | (simp at *; omega)) (.p (.move (.t rfl) ?_)))))))))))
  refine .p (.rem (.t rfl) (.t rfl) (by first | omega | (simp; done) | (simp; omega) | (simp at *; omega)) (by first | omega | (simp; done) | (simp; omega) | (simp at *; omega)) (.p (.assign (.t rfl) ?_)))
  refine .nil ?_
  refine .ret ?_
  refine ⟨_, .r1 rfl (.tmp rfl), ?_⟩
  rw [h4]
def labelC (c : UInt8) : Bool := decide (97 ≤ c) && decide (c ≤ 122)
def isLabel (s : Str) : Bool := decide (1 ≤ s.l.length) && decide (s.l.length ≤ 16) && s.l.all labelC
theorem all_succ {α : Type} (p : α → Bool) (l : List α) (k : Nat) (h : k < l.length) : (l.take (k + 1)).all p = ((l.take k).all p && p l[k]) := by
  rw [List.take_succ_eq_append_getElem h, List.all_append]; simp
theorem all_at {α : Type} (p : α → Bool) (l : List α) (k : Nat) (h : k < l.length) (hf : p l[k] = false) : l.all p = false := by
  rw [List.all_eq_false]; exact ⟨l[k], List.getElem_mem h, by simp [hf]⟩
theorem label_c (s : Str) : FunA gl Tryd.prog 107 [.v s] (fun r => r = .v (isLabel s)) := by
  refine FunA.intro Tryd.func107 rfl (by kernel_rfl) 28 rfl rfl _ rfl fun C hC hG => ?_
  refine .seq ?_
  refine .region rfl ?_
  refine .p (.assign .b ?_)
  refine .nil ?_
  refine .seq ?_
  refine .seq ?_
  refine .strLe 0 rfl fun hs => ?_
  refine .region rfl ?_
  refine .p (.move (.t rfl) (.p (.lenS Tryd.underlying9 (.t rfl) (.p (.lss (.t rfl) (.i rfl) (.p (.move (.t rfl) ?_)))))))
  refine .go 7 rfl (.t rfl) (fun hg8 => .move (.t rfl) rfl) ?_
  refine .go 7 rfl (.t rfl) (fun hg9 => .lenS Tryd.underlying9 (.o rfl (beq_iff_eq.2 hg9)) rfl) ?_
  refine .go 7 rfl (.t rfl) (fun hg10 => .gtr (.o rfl (beq_iff_eq.2 hg10)) (.i rfl) rfl) ?_
  refine .p (.pickOr (.t rfl) (fun hp => (.o rfl (beq_iff_eq.2 hp))) ?_)
  refine .nil ?_
  refine .cond (.t rfl) (fun hc11 => ?_) (fun hc11 => ?_)
  · refine .seq ?_
    refine .region rfl ?_
    refine .p (.assign .b ?_)
    refine .nil ?_
    refine .ret ?_
    refine ⟨_, .r1 rfl (.tmp rfl), ?_⟩
    refine congrArg AV.v ?_; simp only [Bool.or_eq_true, decide_eq_true_eq] at hc11; unfold isLabel; rcases hc11 with h | h
    · rw [decide_eq_false (show ¬ 1 ≤ s.l.length by omega)]; rfl
    · rw [decide_eq_false (show ¬ s.l.length ≤ 16 by omega)]; simp
  · refine .skip ?_
    refine .seq ?_
    refine .seq ?_
    refine .region rfl ?_
    refine .p (.move (.t rfl) (.p (.lenS Tryd.underlying9 (.t rfl) (.p (.move (.i rfl) ?_)))))
    refine .nil ?_
    refine .block ?_
    refine .loopR (α := Nat) [(0, _), (13, _)] (fun k R => (14, .v (k : Int)) :: R) (fun k => []) (fun k => k ≤ s.l.length ∧ (s.l.take k).all labelC = true) (fun k => s.l.length - k) (0) (.cons rfl (.cons rfl (.nil _))) ?_ (.cons rfl (.cons rfl (.cons rfl (.nil _)))) (rfl) fun k hF => ?_
    · simp
    obtain ⟨h1, h2⟩ := hF
    refine .seq ?_
    refine .region rfl ?_
    refine .p (.lss (.t rfl) (.t rfl) ?_)
    refine .nil ?_
    refine .seq ?_
    refine .condP (.t rfl) (fun hc15 => ?_) (fun hc15 => ?_)
    · refine .skip ?_
      refine .seq ?_
      refine .block ?_
      refine .seq ?_
      refine .region rfl ?_
      refine .p (.move (.t rfl) (.p (.assign (.t rfl) ?_)))
      refine .nil ?_
      refine .seq ?_
      refine .region rfl ?_
      refine .p (.move (.t rfl) (.p (.move (.t rfl) (.p (.ixStr Tryd.underlying9 (.t rfl) (.t rfl) (by first | omega | (simp; done) | (simp; omega) | (simp at *; omega)) (by first | omega | (simp; done) | (simp; omega) | (simp at *; omega)) (.p (.lss8 (.t rfl) (.u8 97 rfl) (.p (.move (.t rfl) ?_)))))))))
      refine .go 21 rfl (.t rfl) (fun hg22 => .move (.t rfl) rfl) ?_
      refine .go 21 rfl (.t rfl) (fun hg23 => .move (.t rfl) rfl) ?_
      refine .go 21 rfl (.t rfl) (fun hg24 => .ixStr Tryd.underlying9 (.o rfl (beq_iff_eq.2 hg24)) (.o rfl (beq_iff_eq.2 hg24)) (by first | omega | (simp; omega) | (have := hg24; simp at this; omega)) (by first | omega | (simp; omega) | (have := hg24; simp at this; omega)) rfl) ?_
      refine .go 21 rfl (.t rfl) (fun hg25 => .gtr8 (.o rfl (beq_iff_eq.2 hg25)) (.u8 122 rfl) rfl) ?_
      refine .p (.pickOr (.t rfl) (fun hp => (.o rfl (beq_iff_eq.2 hp))) ?_)
      refine .nil ?_
      refine .cond (.t rfl) (fun hc26 => ?_) (fun hc26 => ?_)
      · refine .seq ?_
        refine .region rfl ?_
        refine .p (.assign .b ?_)
        refine .nil ?_
        refine .ret ?_
        refine ⟨_, .r1 rfl (.tmp rfl), ?_⟩
        refine congrArg AV.v (Eq.symm ?_); unfold isLabel; rw [all_at labelC s.l k (by omega), Bool.and_false]; unfold labelC; simp only [Bool.or_eq_true, decide_eq_true_eq, Int.toNat_natCast] at hc26; rcases hc26 with h | h
        · rw [decide_eq_false (UInt8.not_le.2 h)]; rfl
        · rw [decide_eq_false (UInt8.not_le.2 h), Bool.and_false]
      · refine .skip ?_
        refine .region rfl ?_
        refine .p (.add (.t rfl) (.i rfl) (by first | omega | (simp; done) | (simp; omega) | (simp at *; omega)) (by first | omega | (simp; done) | (simp; omega) | (simp at *; omega)) (.p (.move (.t rfl) ?_)))
        refine .nil ?_
        refine ⟨k + 1, .cons rfl (.cons rfl (.cons rfl (.nil _))), rfl, ?_, by omega⟩
        refine ⟨by omega, ?_⟩; rw [all_succ _ _ _ (by omega), h2]; simp only [Bool.or_eq_false_iff, decide_eq_false_iff_not, UInt8.not_lt, Int.toNat_natCast] at hc26; simpa [labelC] using hc26
    · refine .exit ?_
      refine .seq ?_
      refine .region rfl ?_
      refine .p (.assign .b ?_)
      refine .nil ?_
      refine .ret ?_
      refine ⟨_, .r1 rfl (.tmp rfl), ?_⟩
      refine congrArg AV.v (Eq.symm ?_); simp only [Bool.or_eq_false_iff, decide_eq_false_iff_not] at hc11; unfold isLabel; rw [List.take_of_length_le (by omega)] at h2; rw [h2]; simp; omega
theorem Name_c (s : Str) : FunA gl Tryd.prog 94 [.v s] (fun r => r = .v (isLabel s)) := by
  refine FunA.intro Tryd.func94 rfl (by kernel_rfl) 28 rfl rfl _ rfl fun C hC hG => ?_
  refine .seq ?_
  refine .region rfl ?_
  refine .p (.assign .b ?_)
  refine .nil ?_
  refine .seq ?_
  refine .seq ?_
  refine .strLe 0 rfl fun hs => ?_
  refine .region rfl ?_
  refine .p (.move (.t rfl) (.p (.lenS Tryd.underlying9 (.t rfl) (.p (.lss (.t rfl) (.i rfl) (.p (.move (.t rfl) ?_)))))))
  refine .go 7 rfl (.t rfl) (fun hg8 => .move (.t rfl) rfl) ?_
  refine .go 7 rfl (.t rfl) (fun hg9 => .lenS Tryd.underlying9 (.o rfl (beq_iff_eq.2 hg9)) rfl) ?_
  refine .go 7 rfl (.t rfl) (fun hg10 => .gtr (.o rfl (beq_iff_eq.2 hg10)) (.i rfl) rfl) ?_
  refine .p (.pickOr (.t rfl) (fun hp => (.o rfl (beq_iff_eq.2 hp))) ?_)
  refine .nil ?_
  refine .cond (.t rfl) (fun hc11 => ?_) (fun hc11 => ?_)
  · refine .seq ?_
    refine .region rfl ?_
    refine .p (.assign .b ?_)
    refine .nil ?_
    refine .ret ?_
    refine ⟨_, .r1 rfl (.tmp rfl), ?_⟩
    refine congrArg AV.v ?_; simp only [Bool.or_eq_true, decide_eq_true_eq] at hc11; unfold isLabel; rcases hc11 with h | h
    · rw [decide_eq_false (show ¬ 1 ≤ s.l.length by omega)]; rfl
    · rw [decide_eq_false (show ¬ s.l.length ≤ 16 by omega)]; simp
  · refine .skip ?_
    refine .seq ?_
    refine .seq ?_
    refine .region rfl ?_
    refine .p (.assign (.i rfl) ?_)
    refine .nil ?_
    refine .block ?_
    refine .loopR (α := Nat) [(0, _)] (fun k R => (3, .v (k : Int)) :: R) (fun k => []) (fun k => k ≤ s.l.length ∧ (s.l.take k).all labelC = true) (fun k => s.l.length - k) (0) (.cons rfl (.nil _)) ?_ (.cons rfl (.cons rfl (.nil _))) (rfl) fun k hF => ?_
    · simp
    obtain ⟨h1, h2⟩ := hF
    refine .seq ?_
    refine .seq ?_
    refine .region rfl ?_
    refine .p (.move (.t rfl) (.p (.move (.t rfl) (.p (.lenS Tryd.underlying9 (.t rfl) (.p (.lss (.t rfl) (.t rfl) ?_)))))))
    refine .nil ?_
    refine .condP (.t rfl) (fun hc15 => ?_) (fun hc15 => ?_)
    · refine .skip ?_
      refine .seq ?_
      refine .block ?_
      refine .seq ?_
      refine .region rfl ?_
      refine .p (.move (.t rfl) (.p (.move (.t rfl) (.p (.ixStr Tryd.underlying9 (.t rfl) (.t rfl) (by first | omega | (simp; done) | (simp; omega) | (simp at *; omega)) (by first | omega | (simp; done) | (simp; omega) | (simp at *; omega)) (.p (.lss8 (.t rfl) (.u8 97 rfl) (.p (.move (.t rfl) ?_)))))))))
      refine .go 22 rfl (.t rfl) (fun hg23 => .move (.t rfl) rfl) ?_
      refine .go 22 rfl (.t rfl) (fun hg24 => .move (.t rfl) rfl) ?_
      refine .go 22 rfl (.t rfl) (fun hg25 => .ixStr Tryd.underlying9 (.o rfl (beq_iff_eq.2 hg25)) (.o rfl (beq_iff_eq.2 hg25)) (by first | omega | (simp; omega) | (have := hg25; simp at this; omega)) (by first | omega | (simp; omega) | (have := hg25; simp at this; omega)) rfl) ?_
      refine .go 22 rfl (.t rfl) (fun hg26 => .gtr8 (.o rfl (beq_iff_eq.2 hg26)) (.u8 122 rfl) rfl) ?_
      refine .p (.pickOr (.t rfl) (fun hp => (.o rfl (beq_iff_eq.2 hp))) ?_)
      refine .nil ?_
      refine .cond (.t rfl) (fun hc27 => ?_) (fun hc27 => ?_)
      · refine .seq ?_
        refine .region rfl ?_
        refine .p (.assign .b ?_)
        refine .nil ?_
        refine .ret ?_
        refine ⟨_, .r1 rfl (.tmp rfl), ?_⟩
        refine congrArg AV.v (Eq.symm ?_); unfold isLabel; rw [all_at labelC s.l k (by omega), Bool.and_false]; unfold labelC; simp only [Bool.or_eq_true, decide_eq_true_eq, Int.toNat_natCast] at hc27; rcases hc27 with h | h
        · rw [decide_eq_false (UInt8.not_le.2 h)]; rfl
        · rw [decide_eq_false (UInt8.not_le.2 h), Bool.and_false]
      · refine .skip ?_
        refine .region rfl ?_
        refine .p (.move (.t rfl) (.p (.add (.t rfl) (.i rfl) (by first | omega | (simp; done) | (simp; omega) | (simp at *; omega)) (by first | omega | (simp; done) | (simp; omega) | (simp at *; omega)) (.p (.assign (.t rfl) ?_)))))
        refine .nil ?_
        refine ⟨k + 1, .cons rfl (.cons rfl (.nil _)), rfl, ?_, by omega⟩
        refine ⟨by omega, ?_⟩; rw [all_succ _ _ _ (by omega), h2]; simp only [Bool.or_eq_false_iff, decide_eq_false_iff_not, UInt8.not_lt, Int.toNat_natCast] at hc27; simpa [labelC] using hc27
    · refine .exit ?_
      refine .seq ?_
      refine .region rfl ?_
      refine .p (.assign .b ?_)
      refine .nil ?_
      refine .ret ?_
      refine ⟨_, .r1 rfl (.tmp rfl), ?_⟩
      refine congrArg AV.v (Eq.symm ?_); simp only [Bool.or_eq_false_iff, decide_eq_false_iff_not] at hc11; unfold isLabel; rw [List.take_of_length_le (by omega)] at h2; rw [h2]; simp; omega
/-- A key of at most 64 bytes, with zeros behind it, each combined with x. -/
def key0 (key : List UInt8) : List UInt8 := key ++ List.replicate (64 - key.length) 0
def padded (key : List UInt8) (x : UInt8) : List UInt8 := (key0 key).map (· ^^^ x)
theorem key0_length (key : List UInt8) (h : key.length ≤ 64) : (key0 key).length = 64 := by simp [key0]; omega
@[simp] theorem padded_len (key : List UInt8) (x : UInt8) : (padded key x).length = max 64 key.length := by simp [padded, key0]; omega
theorem padded_length (key : List UInt8) (x : UInt8) (h : key.length ≤ 64) : (padded key x).length = 64 := by simp [padded, key0_length key h]
theorem map_front {α : Type} (f : α → α) (l : List α) (k : Nat) (h : k < l.length) : ((l.take k).map f ++ l.drop k).set k (f l[k]) = (l.take (k + 1)).map f ++ l.drop (k + 1) := by
  rw [List.set_append_right _ _ (by simp; omega)]
  have e : k - ((l.take k).map f).length = 0 := by simp; omega
  rw [e, List.drop_eq_getElem_cons h, List.set_cons_zero, List.take_succ_eq_append_getElem h]
  simp only [List.map_append, List.map_cons, List.map_nil, List.append_assoc, List.cons_append, List.nil_append]
theorem map_front_get {α : Type} (f : α → α) (l : List α) (k : Nat) (h : k < l.length) (h2 : k < ((l.take k).map f ++ l.drop k).length) : ((l.take k).map f ++ l.drop k)[k] = l[k] := by
  rw [List.getElem_append_right (by simp; omega)]
  simp [Nat.min_eq_left (Nat.le_of_lt h)]
theorem map_step {α : Type} (f : α → α) (l : List α) (k : Nat) (h : k < l.length) (h2 : k < ((l.take k).map f ++ l.drop k).length) : ((l.take k).map f ++ l.drop k).set k (f (((l.take k).map f ++ l.drop k)[k])) = (l.take (k + 1)).map f ++ l.drop (k + 1) := by
  rw [map_front_get f l k h h2]; exact map_front f l k h
theorem copy_zero (key : List UInt8) (f : UInt8 → UInt8) (hk : key.length ≤ 64) : key.take (List.replicate 64 (0 : UInt8)).length ++ (List.replicate 64 (0 : UInt8)).drop key.length = ((key0 key).take 0).map f ++ (key0 key).drop 0 := by
  rw [List.length_replicate, List.drop_replicate, List.take_of_length_le hk]
  rfl
theorem len64 (key : List UInt8) (hk : key.length ≤ 64) : (key.take (List.replicate (Int.toNat 64) (default : UInt8)).length ++ (List.replicate (Int.toNat 64) (default : UInt8)).drop key.length).length = 64 := by
  rw [List.length_append, List.length_take, List.length_drop, List.length_replicate]
  show min 64 key.length + (64 - key.length) = 64
  omega
theorem pad_c (key : List UInt8) (x : UInt8) (hk : key.length ≤ 64) : FunA gl Tryd.prog 92 [.v key, .v x] (fun r => r = .v (padded key x)) := by
  have hl := key0_length key hk
  have e64 := len64 key hk
  refine FunA.intro Tryd.func92 rfl (by kernel_rfl) 25 rfl rfl _ rfl fun C hC hG => ?_
  refine .seq ?_
  refine .region rfl ?_
  refine .p (.assign (.nilS (α := UInt8)) ?_)
  refine .nil ?_
  refine .seq ?_
  refine .region rfl ?_
  refine .h (.make st23 (.i rfl) (by first | omega | (simp; done) | (simp; omega) | (simp at *; omega)) (by first | omega | (simp; done) | (simp; omega) | (simp at *; omega)) (by first | omega | (simp; done) | (simp; omega) | (simp at *; omega)) fun b7 => .p (.assign (.t rfl) ?_))
  refine .nil ?_
  refine .seq ?_
  refine .region rfl ?_
  refine .p (.move (.t rfl) (.p (.move (.t rfl) (.h (.copyOwn ty5 Tryd.underlying23 rfl .z (.v (.t rfl)) (by first | omega | (simp; done) | (simp; omega) | (simp at *; omega)) ?_)))))
  refine .nil ?_
  refine .seq ?_
  refine .seq ?_
  refine .region rfl ?_
  refine .p (.move (.t rfl) (.p (.lenOwn Tryd.underlying23 rfl .z (.p (.move (.i rfl) ?_)))))
  refine .nil ?_
  refine .block ?_
  refine .loopR (α := Nat) [(1, _), (5, _), (12, _)] (fun k R => (13, .v (k : Int)) :: R) (fun k => [(true, .own 5 (slc b7 0 64 64) (((key0 key).take k).map (· ^^^ x) ++ (key0 key).drop k))]) (fun k => k ≤ 64) (fun k => 64 - k) (0) (.cons rfl (.cons rfl (.cons rfl (.nil _)))) ?_ (.cons rfl (.cons rfl (.cons rfl (.cons rfl (.nil _))))) (congrArg (fun q => [(true, Blk.own _ _ q)]) (copy_zero key _ hk)) fun k hF => ?_
  · simp
  refine .seq ?_
  refine .region rfl ?_
  refine .p (.lss (.t rfl) (.t rfl) ?_)
  refine .nil ?_
  refine .seq ?_
  refine .condP (.t rfl) (fun hc14 => ?_) (fun hc14 => ?_)
  · refine .skip ?_
    refine .seq ?_
    refine .block ?_
    refine .seq ?_
    refine .region rfl ?_
    refine .p (.move (.t rfl) (.p (.assign (.t rfl) ?_)))
    refine .nil ?_
    refine .region rfl ?_
    refine .p (.move (.t rfl) (.p (.move (.t rfl) (.p (.idxOwn ty5 Tryd.underlying23 rfl .z (.t rfl) (by first | omega | (simp; done) | (simp; omega) | (simp at *; omega)) (by first | omega | (simp; done) | (simp; omega) | (simp at *; omega)) (.p (.ldEW ty5 (.t rfl) .z (by first | omega | (simp; done) | (simp; omega) | (simp at *; omega)) (.p (.move (.t rfl) (.p (.xor8 (.t rfl) (.t rfl) ?_)))))))))))
    refine .p (.idxOwn ty5 Tryd.underlying23 rfl .z (.t rfl) (by first | omega | (simp; done) | (simp; omega) | (simp at *; omega)) (by first | omega | (simp; done) | (simp; omega) | (simp at *; omega)) (.n (.stEW ty5 (.t rfl) (.t rfl) .z (by first | omega | (simp; done) | (simp; omega) | (simp at *; omega)) ?_)))
    refine .nil ?_
    refine .region rfl ?_
    refine .p (.add (.t rfl) (.i rfl) (by first | omega | (simp; done) | (simp; omega) | (simp at *; omega)) (by first | omega | (simp; done) | (simp; omega) | (simp at *; omega)) (.p (.move (.t rfl) ?_)))
    refine .nil ?_
    refine ⟨k + 1, .cons rfl (.cons rfl (.cons rfl (.cons rfl (.nil _)))), congrArg (fun q => [(true, Blk.own _ _ q)]) (map_step (· ^^^ x) (key0 key) k (by omega) _), ?_, by omega⟩
    omega
  · refine .exit ?_
    refine .seq ?_
    refine .region rfl ?_
    refine .p (.move (.t rfl) (.p (.assign (.t rfl) ?_)))
    refine .nil ?_
    refine .frzOwn hC .z ?_
    refine .as 4 rfl .z ?_
    refine .ret ?_
    refine ⟨_, .r1 rfl (.tmp rfl), ?_⟩
    refine congrArg AV.v ?_; have : k = 64 := by simp at hc14; omega
    subst this; rw [List.take_of_length_le (by omega), List.drop_eq_nil_of_le (by omega), List.append_nil]; rfl
theorem set_next {α : Type} (P : List α) (z : α) (n k : Nat) (hn : P.length = n) (h : k < n) (v : α) (hv : P[k]'(by omega) = v) : (P.take k ++ List.replicate (n - k) z).set k v = P.take (k + 1) ++ List.replicate (n - (k + 1)) z := by
  rw [List.set_append_right _ _ (by simp; omega)]
  have e : k - (P.take k).length = 0 := by simp; omega
  rw [e, show n - k = (n - (k + 1)) + 1 by omega, List.replicate_succ, List.set_cons_zero, List.take_succ_eq_append_getElem (by omega), hv]
  simp
theorem padded_get (key : List UInt8) (x : UInt8) (k : Nat) (h : k < (padded key x).length) : (padded key x)[k] = (if h2 : k < key.length then key[k] ^^^ x else x) := by
  simp only [padded, key0, List.getElem_map]
  by_cases h2 : k < key.length
  · rw [List.getElem_append_left h2, dif_pos h2]
  · rw [List.getElem_append_right (by omega), dif_neg h2]; simp
theorem rpadded_c (key : List UInt8) (x : UInt8) (hk : key.length ≤ 64) : FunA gl Tryd.prog 85 [.v key, .v x] (fun r => r = .vc (padded key x)) := by
  have hl := key0_length key hk
  have hl2 := padded_length key x hk
  refine FunA.intro Tryd.func85 rfl (by kernel_rfl) 30 rfl rfl _ rfl fun C hC hG => ?_
  refine .seq ?_
  refine .region rfl ?_
  refine .p (.assign (.nilS (α := UInt8)) ?_)
  refine .nil ?_
  refine .seq ?_
  refine .region rfl ?_
  refine .h (.make st23 (.i rfl) (by first | omega | (simp; done) | (simp; omega) | (simp at *; omega)) (by first | omega | (simp; done) | (simp; omega) | (simp at *; omega)) (by first | omega | (simp; done) | (simp; omega) | (simp at *; omega)) fun b7 => .p (.assign (.t rfl) ?_))
  refine .nil ?_
  refine .seq ?_
  refine .seq ?_
  skip
  refine .region rfl ?_
  refine .p (.assign (.i rfl) ?_)
  refine .nil ?_
  refine .block ?_
  refine .loopR (α := Nat) [(0, _), (1, _), (5, _)] (fun k R => (6, .v (k : Int)) :: R) (fun k => [(true, .own 5 (slc b7 0 64 64) ((padded key x).take k ++ List.replicate (64 - k) 0))]) (fun k => k ≤ 64) (fun k => 64 - k) (0) (.cons rfl (.cons rfl (.cons rfl (.nil _)))) ?_ (.cons rfl (.cons rfl (.cons rfl (.cons rfl (.nil _))))) (rfl) fun k hF => ?_
  · omega
  refine .seq ?_
  refine .seq ?_
  refine .region rfl ?_
  refine .p (.move (.t rfl) (.p (.lss (.t rfl) (.i rfl) ?_)))
  refine .nil ?_
  refine .condP (.t rfl) (fun hc9 => ?_) (fun hc9 => ?_)
  · refine .skip ?_
    refine .seq ?_
    refine .block ?_
    refine .seq ?_
    refine .region rfl ?_
    refine .p (.move (.t rfl) (.p (.move (.t rfl) (.p (.move (.t rfl) (.p (.idxOwn ty5 Tryd.underlying23 rfl .z (.t rfl) (by first | omega | (simp; done) | (simp; omega) | (simp at *; omega)) (by first | omega | (simp; done) | (simp; omega) | (simp at *; omega)) (.n (.stEW ty5 (.t rfl) (.t rfl) .z (by first | omega | (simp; done) | (simp; omega) | (simp at *; omega)) ?_)))))))))
    refine .nil ?_
    refine .seq ?_
    refine .region rfl ?_
    refine .p (.move (.t rfl) (.p (.move (.t rfl) (.p (.len Tryd.underlying23 (.t rfl) (.p (.lss (.t rfl) (.t rfl) ?_)))))))
    refine .nil ?_
    refine .condP (.t rfl) (fun hc19 => ?_) (fun hc19 => ?_)
    · refine .region rfl ?_
      refine .p (.move (.t rfl) (.p (.move (.t rfl) (.p (.move (.t rfl) (.p (.move (.t rfl) (.p (.idx ty5 Tryd.underlying23 (.t rfl) (.t rfl) (by first | omega | (simp; done) | (simp; omega) | (simp at *; omega)) (by first | omega | (simp; done) | (simp; omega) | (simp at *; omega)) (.p (.ldP ty5 (.t rfl) ?_)))))))))))
      refine .p (.move (.t rfl) (.p (.xor8 (.t rfl) (.t rfl) (.p (.idxOwn ty5 Tryd.underlying23 rfl .z (.t rfl) (by first | omega | (simp; done) | (simp; omega) | (simp at *; omega)) (by first | omega | (simp; done) | (simp; omega) | (simp at *; omega)) (.n (.stEW ty5 (.t rfl) (.t rfl) .z (by first | omega | (simp; done) | (simp; omega) | (simp at *; omega)) ?_)))))))
      refine .nil ?_
      refine .region rfl ?_
      refine .p (.move (.t rfl) (.p (.add (.t rfl) (.i rfl) (by first | omega | (simp; done) | (simp; omega) | (simp at *; omega)) (by first | omega | (simp; done) | (simp; omega) | (simp at *; omega)) (.p (.assign (.t rfl) ?_)))))
      refine .nil ?_
      refine ⟨k + 1, .cons rfl (.cons rfl (.cons rfl (.cons rfl (.nil _)))), congrArg (fun q => [(true, Blk.own _ _ q)]) (by first | exact set_next _ 0 64 k hl2 (by omega) x (by rw [padded_get, dif_neg (by omega)]) | exact (List.set_set ..).trans (set_next _ 0 64 k hl2 (by omega) _ (by rw [padded_get, dif_pos (by omega)]; rfl))), ?_, by omega⟩
      omega
    · refine .skip ?_
      refine .region rfl ?_
      refine .p (.move (.t rfl) (.p (.add (.t rfl) (.i rfl) (by first | omega | (simp; done) | (simp; omega) | (simp at *; omega)) (by first | omega | (simp; done) | (simp; omega) | (simp at *; omega)) (.p (.assign (.t rfl) ?_)))))
      refine .nil ?_
      refine ⟨k + 1, .cons rfl (.cons rfl (.cons rfl (.cons rfl (.nil _)))), congrArg (fun q => [(true, Blk.own _ _ q)]) (by first | exact set_next _ 0 64 k hl2 (by omega) x (by rw [padded_get, dif_neg (by omega)]) | exact (List.set_set ..).trans (set_next _ 0 64 k hl2 (by omega) _ (by rw [padded_get, dif_pos (by omega)]; rfl))), ?_, by omega⟩
      omega
  · refine .exit ?_
    refine .seq ?_
    refine .region rfl ?_
    refine .p (.move (.t rfl) (.p (.assign (.t rfl) ?_)))
    refine .nil ?_
    refine .frzC hC .z (by rw [List.length_append, List.length_take, List.length_replicate, hl2]; omega) ?_
    refine .as 4 rfl .z ?_
    refine .ret ?_
    refine ⟨_, .r1 rfl (.tmp rfl), ?_⟩
    refine congrArg AV.vc ?_; have : k = 64 := by omega
    subst this; rw [List.take_of_length_le (by rw [padded_length key x hk]; omega)]; simp
def hmac (key m : List UInt8) : Tag :=
  let k := if key.length > 64 then (sha key).l else key
  sha (padded k 92 ++ (sha (padded k 54 ++ m)).l)
theorem hmac_k (key : List UInt8) : (if key.length > 64 then (sha key).l else key).length ≤ 64 := by
  split
  · rw [(sha key).h]; omega
  · omega
theorem rHmac_c (key m : List UInt8) (h1 : key.length ≤ 1000000) (h2 : m.length ≤ 1000000) : FunA gl Tryd.prog 57 [.v key, .v m] (fun r => r = .v (hmac key m)) := by
  refine FunA.intro Tryd.func57 rfl (by kernel_rfl) 23 rfl rfl _ rfl fun C hC hG => ?_
  refine .seq ?_
  refine .region rfl ?_
  refine .h (.alloc ty28 fun b4 => ?_)
  refine .nil ?_
  refine .seq ?_
  refine .seq ?_
  refine .region rfl ?_
  refine .p (.move (.t rfl) (.p (.len Tryd.underlying23 (.t rfl) (.p (.gtr (.t rfl) (.i rfl) ?_)))))
  refine .nil ?_
  refine .condP (.t rfl) (fun hc9 => ?_) (fun hc9 => ?_)
  · refine .seq ?_
    refine .region rfl ?_
    refine .p (.move (.t rfl) (.p (.call1 hG (rSha_c _ (by first | omega | (simp; done) | (simp; omega) | (simp at *; omega))) (.cons (.t rfl) .nil) (.h (.alloc ty28 fun b5 => .n (.stW ty28 (.t rfl) (.t rfl) .z ?_))))))
    refine .frzOb hC .z ?_
    refine .asP 5 rfl .z ?_
    refine .nil ?_
    refine .region rfl ?_
    refine .p (.slArrP (by decide) ar28 (.t rfl) (.p (.assign (.t rfl) ?_)))
    refine .nil ?_
    refine .seq ?_
    refine .region rfl ?_
    refine .p (.move (.t rfl) (.p (.call1 hG (rpadded_c _ _ (by first | omega | (simp; done) | (simp; omega) | (simp at *; omega))) (.cons (.t rfl) (.cons (.u8 54 rfl) .nil)) (.p (.move (.t rfl) (.p (.appendC st23 (.inl ⟨_, Tryd.underlying23⟩) (.t rfl) (.v (.t rfl)) (by first | omega | (simp; done) | (simp; omega) | (simp at *; omega)) (by first | omega | (simp; done) | (simp; omega) | (simp at *; omega)) (.p (.call1 hG (rSha_c _ (by first | omega | (simp; done) | (simp; omega) | (simp at *; omega))) (.cons (.t rfl) .nil) (.h (.alloc ty28 fun b6 => ?_)))))))))))
    refine .n (.stW ty28 (.t rfl) (.t rfl) .z ?_)
    refine .frzOb hC .z ?_
    refine .asP 6 rfl .z ?_
    refine .nil ?_
    refine .seq ?_
    refine .draw (by kernel_rfl) 5 [[], [(18, 0)], [], [(19, 1), (20, 2)], [(21, 3)]] rfl (by kernel_rfl) rfl ?_
    refine ⟨_, OpP.move (.t rfl) rfl, ?_⟩
    refine ⟨_, OpP.call1 hG (rpadded_c _ _ (by first | omega | (simp; done) | (simp; omega) | (simp at *; omega))) (.cons (.t rfl) (.cons (.u8 92 rfl) .nil)) rfl, ?_⟩
    refine ⟨_, OpP.slArrP (by decide) ar28 (.t rfl) rfl, ?_⟩
    refine ⟨_, OpP.appendC st23 (.inl ⟨_, Tryd.underlying23⟩) (.t rfl) (.v (.t rfl)) (by first | omega | (simp; done) | (simp; omega) | (simp at *; omega)) (by first | omega | (simp; done) | (simp; omega) | (simp at *; omega)) rfl, ?_⟩
    refine ⟨_, OpP.call1 hG (rSha_c _ (by first | omega | (simp; done) | (simp; omega) | (simp at *; omega))) (.cons (.t rfl) .nil) rfl, ?_⟩
    show wpB _ _ _ _ _ _ ((22, _) :: (21, _) :: (20, _) :: (19, _) :: (18, _) :: _) _
    refine .n (.stW ty28 (.t rfl) (.t rfl) (.s (.s .z)) ?_)
    refine .nil ?_
    refine .ret ?_
    refine ⟨_, .r1 rfl (.cell ty28 rfl (.s (.s .z))), ?_⟩
    show _ = AV.v (hmac key m)
    simp only [hmac, if_pos (show key.length > 64 by omega), hNew_eq, hWrite_hOf, hSum_hOf, List.nil_append]
  · refine .skip ?_
    refine .seq ?_
    refine .region rfl ?_
    refine .p (.move (.t rfl) (.p (.call1 hG (rpadded_c _ _ (by first | omega | (simp; done) | (simp; omega) | (simp at *; omega))) (.cons (.t rfl) (.cons (.u8 54 rfl) .nil)) (.p (.move (.t rfl) (.p (.appendC st23 (.inl ⟨_, Tryd.underlying23⟩) (.t rfl) (.v (.t rfl)) (by first | omega | (simp; done) | (simp; omega) | (simp at *; omega)) (by first | omega | (simp; done) | (simp; omega) | (simp at *; omega)) (.p (.call1 hG (rSha_c _ (by first | omega | (simp; done) | (simp; omega) | (simp at *; omega))) (.cons (.t rfl) .nil) (.h (.alloc ty28 fun b6 => ?_)))))))))))
    refine .n (.stW ty28 (.t rfl) (.t rfl) .z ?_)
    refine .frzOb hC .z ?_
    refine .asP 6 rfl .z ?_
    refine .nil ?_
    refine .seq ?_
    refine .draw (by kernel_rfl) 5 [[], [(18, 0)], [], [(19, 1), (20, 2)], [(21, 3)]] rfl (by kernel_rfl) rfl ?_
    refine ⟨_, OpP.move (.t rfl) rfl, ?_⟩
    refine ⟨_, OpP.call1 hG (rpadded_c _ _ (by first | omega | (simp; done) | (simp; omega) | (simp at *; omega))) (.cons (.t rfl) (.cons (.u8 92 rfl) .nil)) rfl, ?_⟩
    refine ⟨_, OpP.slArrP (by decide) ar28 (.t rfl) rfl, ?_⟩
    refine ⟨_, OpP.appendC st23 (.inl ⟨_, Tryd.underlying23⟩) (.t rfl) (.v (.t rfl)) (by first | omega | (simp; done) | (simp; omega) | (simp at *; omega)) (by first | omega | (simp; done) | (simp; omega) | (simp at *; omega)) rfl, ?_⟩
    refine ⟨_, OpP.call1 hG (rSha_c _ (by first | omega | (simp; done) | (simp; omega) | (simp at *; omega))) (.cons (.t rfl) .nil) rfl, ?_⟩
    show wpB _ _ _ _ _ _ ((22, _) :: (21, _) :: (20, _) :: (19, _) :: (18, _) :: _) _
    refine .n (.stW ty28 (.t rfl) (.t rfl) (.s .z) ?_)
    refine .nil ?_
    refine .ret ?_
    refine ⟨_, .r1 rfl (.cell ty28 rfl (.s .z)), ?_⟩
    show _ = AV.v (hmac key m)
    simp only [hmac, if_neg (show ¬ key.length > 64 by omega), hNew_eq, hWrite_hOf, hSum_hOf, List.nil_append]
theorem hmacOf_c (key m : List UInt8) (h1 : key.length ≤ 1000000) (h2 : m.length ≤ 1000000) : FunA gl Tryd.prog 59 [.v key, .v m] (fun r => r = .v (hmac key m)) := by
  refine FunA.intro Tryd.func59 rfl (by kernel_rfl) 27 rfl rfl _ rfl fun C hC hG => ?_
  refine .seq ?_
  refine .region rfl ?_
  refine .h (.alloc ty28 fun b4 => ?_)
  refine .nil ?_
  refine .seq ?_
  refine .seq ?_
  refine .region rfl ?_
  refine .p (.move (.t rfl) (.p (.len Tryd.underlying23 (.t rfl) (.p (.gtr (.t rfl) (.i rfl) ?_)))))
  refine .nil ?_
  refine .condP (.t rfl) (fun hc9 => ?_) (fun hc9 => ?_)
  · refine .seq ?_
    refine .region rfl ?_
    refine .p (.move (.t rfl) (.p (.call1 hG (Of_c _ (by first | omega | (simp; done) | (simp; omega) | (simp at *; omega))) (.cons (.t rfl) .nil) (.h (.alloc ty28 fun b5 => .n (.stW ty28 (.t rfl) (.t rfl) .z ?_))))))
    refine .frzOb hC .z ?_
    refine .asP 5 rfl .z ?_
    refine .nil ?_
    refine .region rfl ?_
    refine .p (.slArrP (by decide) ar28 (.t rfl) (.p (.assign (.t rfl) ?_)))
    refine .nil ?_
    refine .seq ?_
    refine .region rfl ?_
    refine .p (.call1 hG (New_c) .nil (.p (.move (.t rfl) (.p (.call1 hG (pad_c _ _ (by first | omega | (simp; done) | (simp; omega) | (simp at *; omega))) (.cons (.t rfl) (.cons (.u8 54 rfl) .nil)) (.p (.call1 hG (Write_c _ _ (by first | omega | (simp; done) | (simp; omega) | (simp at *; omega)) (by first | omega | (simp; done) | (simp; omega) | (simp at *; omega)) (by first | omega | (simp; done) | (simp; omega) | (simp at *; omega))) (.cons (.t rfl) (.cons (.t rfl) .nil)) (.p (.move (.t rfl) (.p (.call1 hG (Write_c _ _ (by first | omega | (simp; done) | (simp; omega) | (simp at *; omega)) (by first | omega | (simp; done) | (simp; omega) | (simp at *; omega)) (by first | omega | (simp; done) | (simp; omega) | (simp at *; omega))) (.cons (.t rfl) (.cons (.t rfl) .nil)) ?_)))))))))))
    refine .p (.call1 hG (Sum_c _ (by first | omega | (simp; done) | (simp; omega) | (simp at *; omega)) (by first | omega | (simp; done) | (simp; omega) | (simp at *; omega)) (by first | omega | (simp; done) | (simp; omega) | (simp at *; omega))) (.cons (.t rfl) .nil) (.h (.alloc ty28 fun b6 => .n (.stW ty28 (.t rfl) (.t rfl) .z ?_))))
    refine .frzOb hC .z ?_
    refine .asP 6 rfl .z ?_
    refine .nil ?_
    refine .seq ?_
    refine .draw (by kernel_rfl) 7 [[], [], [(21, 1)], [(20, 0), (22, 2)], [], [(23, 3), (24, 4)], [(25, 5)]] rfl (by kernel_rfl) rfl ?_
    refine ⟨_, OpP.call1 hG (New_c) .nil rfl, ?_⟩
    refine ⟨_, OpP.move (.t rfl) rfl, ?_⟩
    refine ⟨_, OpP.call1 hG (pad_c _ _ (by first | omega | (simp; done) | (simp; omega) | (simp at *; omega))) (.cons (.t rfl) (.cons (.u8 92 rfl) .nil)) rfl, ?_⟩
    refine ⟨_, OpP.call1 hG (Write_c _ _ (by first | omega | (simp; done) | (simp; omega) | (simp at *; omega)) (by first | omega | (simp; done) | (simp; omega) | (simp at *; omega)) (by first | omega | (simp; done) | (simp; omega) | (simp at *; omega))) (.cons (.t rfl) (.cons (.t rfl) .nil)) rfl, ?_⟩
    refine ⟨_, OpP.slArrP (by decide) ar28 (.t rfl) rfl, ?_⟩
    refine ⟨_, OpP.call1 hG (Write_c _ _ (by first | omega | (simp; done) | (simp; omega) | (simp at *; omega)) (by first | omega | (simp; done) | (simp; omega) | (simp at *; omega)) (by first | omega | (simp; done) | (simp; omega) | (simp at *; omega))) (.cons (.t rfl) (.cons (.t rfl) .nil)) rfl, ?_⟩
    refine ⟨_, OpP.call1 hG (Sum_c _ (by first | omega | (simp; done) | (simp; omega) | (simp at *; omega)) (by first | omega | (simp; done) | (simp; omega) | (simp at *; omega)) (by first | omega | (simp; done) | (simp; omega) | (simp at *; omega))) (.cons (.t rfl) .nil) rfl, ?_⟩
    show wpB _ _ _ _ _ _ ((26, _) :: (25, _) :: (24, _) :: (23, _) :: (22, _) :: (21, _) :: (20, _) :: _) _
    refine .n (.stW ty28 (.t rfl) (.t rfl) (.s (.s .z)) ?_)
    refine .nil ?_
    refine .ret ?_
    refine ⟨_, .r1 rfl (.cell ty28 rfl (.s (.s .z))), ?_⟩
    show _ = AV.v (hmac key m)
    simp only [hmac, if_pos (show key.length > 64 by omega), hNew_eq, hWrite_hOf, hSum_hOf, List.nil_append]
  · refine .skip ?_
    refine .seq ?_
    refine .region rfl ?_
    refine .p (.call1 hG (New_c) .nil (.p (.move (.t rfl) (.p (.call1 hG (pad_c _ _ (by first | omega | (simp; done) | (simp; omega) | (simp at *; omega))) (.cons (.t rfl) (.cons (.u8 54 rfl) .nil)) (.p (.call1 hG (Write_c _ _ (by first | omega | (simp; done) | (simp; omega) | (simp at *; omega)) (by first | omega | (simp; done) | (simp; omega) | (simp at *; omega)) (by first | omega | (simp; done) | (simp; omega) | (simp at *; omega))) (.cons (.t rfl) (.cons (.t rfl) .nil)) (.p (.move (.t rfl) (.p (.call1 hG (Write_c _ _ (by first | omega | (simp; done) | (simp; omega) | (simp at *; omega)) (by first | omega | (simp; done) | (simp; omega) | (simp at *; omega)) (by first | omega | (simp; done) | (simp; omega) | (simp at *; omega))) (.cons (.t rfl) (.cons (.t rfl) .nil)) ?_)))))))))))
    refine .p (.call1 hG (Sum_c _ (by first | omega | (simp; done) | (simp; omega) | (simp at *; omega)) (by first | omega | (simp; done) | (simp; omega) | (simp at *; omega)) (by first | omega | (simp; done) | (simp; omega) | (simp at *; omega))) (.cons (.t rfl) .nil) (.h (.alloc ty28 fun b6 => .n (.stW ty28 (.t rfl) (.t rfl) .z ?_))))
    refine .frzOb hC .z ?_
    refine .asP 6 rfl .z ?_
    refine .nil ?_
    refine .seq ?_
    refine .draw (by kernel_rfl) 7 [[], [], [(21, 1)], [(20, 0), (22, 2)], [], [(23, 3), (24, 4)], [(25, 5)]] rfl (by kernel_rfl) rfl ?_
    refine ⟨_, OpP.call1 hG (New_c) .nil rfl, ?_⟩
    refine ⟨_, OpP.move (.t rfl) rfl, ?_⟩
    refine ⟨_, OpP.call1 hG (pad_c _ _ (by first | omega | (simp; done) | (simp; omega) | (simp at *; omega))) (.cons (.t rfl) (.cons (.u8 92 rfl) .nil)) rfl, ?_⟩
    refine ⟨_, OpP.call1 hG (Write_c _ _ (by first | omega | (simp; done) | (simp; omega) | (simp at *; omega)) (by first | omega | (simp; done) | (simp; omega) | (simp at *; omega)) (by first | omega | (simp; done) | (simp; omega) | (simp at *; omega))) (.cons (.t rfl) (.cons (.t rfl) .nil)) rfl, ?_⟩
    refine ⟨_, OpP.slArrP (by decide) ar28 (.t rfl) rfl, ?_⟩
    refine ⟨_, OpP.call1 hG (Write_c _ _ (by first | omega | (simp; done) | (simp; omega) | (simp at *; omega)) (by first | omega | (simp; done) | (simp; omega) | (simp at *; omega)) (by first | omega | (simp; done) | (simp; omega) | (simp at *; omega))) (.cons (.t rfl) (.cons (.t rfl) .nil)) rfl, ?_⟩
    refine ⟨_, OpP.call1 hG (Sum_c _ (by first | omega | (simp; done) | (simp; omega) | (simp at *; omega)) (by first | omega | (simp; done) | (simp; omega) | (simp at *; omega)) (by first | omega | (simp; done) | (simp; omega) | (simp at *; omega))) (.cons (.t rfl) .nil) rfl, ?_⟩
    show wpB _ _ _ _ _ _ ((26, _) :: (25, _) :: (24, _) :: (23, _) :: (22, _) :: (21, _) :: (20, _) :: _) _
    refine .n (.stW ty28 (.t rfl) (.t rfl) (.s .z) ?_)
    refine .nil ?_
    refine .ret ?_
    refine ⟨_, .r1 rfl (.cell ty28 rfl (.s .z)), ?_⟩
    show _ = AV.v (hmac key m)
    simp only [hmac, if_neg (show ¬ key.length > 64 by omega), hNew_eq, hWrite_hOf, hSum_hOf, List.nil_append]
end Go.Proofs.YtiekhjbhlekaeaaDoor
