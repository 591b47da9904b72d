/- Walks of the algebra's small functions: equal bytes, a search in a list, symbols. -/
import Derived.Test.YtiekhjbhlekaeaaDoorHd
import Derived.Test.YtiekhjbhlekaeaaDoorAb
set_option maxRecDepth 1000000
set_option linter.unusedVariables false
set_option linter.unusedSimpArgs false
namespace Go.Proofs.YtiekhjbhlekaeaaDoor
open Go.Fl Go.Ab Go.Mac Go.Sha
theorem bytesEqual_c (a b : List UInt8) : FunA gl Tryd.prog 66 [.v a, .v b] (fun r => r = .v (decide (a = b))) := by
  refine FunA.intro Tryd.func66 rfl (by kernel_rfl) 10 rfl rfl _ rfl fun C hC hG => ?_
  refine .seq ?_
  refine .region rfl ?_
  refine .p (.assign .b ?_)
  refine .nil ?_
  refine .seq ?_
  refine .region rfl ?_
  refine .p (.move (.t rfl) (.p (.bytesStr Tryd.underlying23 Tryd.underlying5 Tryd.underlying9 (.t rfl) (.p (.move (.t rfl) (.p (.bytesStr Tryd.underlying23 Tryd.underlying5 Tryd.underlying9 (.t rfl) (.p (.eqlS (.t rfl) (.t rfl) (.p (.assign (.t rfl) ?_)))))))))))
  refine .nil ?_
  refine .ret ?_
  refine ⟨_, .r1 rfl (.tmp rfl), ?_⟩
  refine congrArg AV.v ?_
  rw [decide_eq_decide]; exact ⟨fun h => congrArg Str.l h, fun h => congrArg Str.mk h⟩
theorem bytesClone_c (b : List UInt8) (hb : b.length ≤ 1000000) : FunA gl Tryd.prog 67 [.v b] (fun r => r = .v b) := by
  refine FunA.intro Tryd.func67 rfl (by kernel_rfl) 8 rfl rfl _ rfl fun C hC hG => ?_
  refine .seq ?_
  refine .region rfl ?_
  refine .p (.assign (.nilS (α := UInt8)) ?_)
  refine .nil ?_
  refine .seq ?_
  refine .seq ?_
  refine .region rfl ?_
  refine .p (.move (.t rfl) (.p (.eqNilS Tryd.underlying23 (.t rfl) fun c4 hn4 => ?_)))
  refine .nil ?_
  refine .cond (.t rfl) (fun hc4 => ?_) (fun hc4 => ?_)
  · refine .seq ?_
    refine .region rfl ?_
    refine .p (.assign (.nilS (α := UInt8)) ?_)
    refine .nil ?_
    refine .ret ?_
    refine ⟨_, .r1 rfl (.tmp rfl), ?_⟩
    rw [hn4 hc4]
  · refine .skip ?_
    refine .seq ?_
    refine .region rfl ?_
    refine .h (.buildSlice (α := UInt8) ty5 Tryd.underlying23 .nil rfl (by decide) fun b5 => .p (.move (.t rfl) (.h (.append st23 (.inl ⟨_, Tryd.underlying23⟩) rfl .z (.v (.t rfl)) (by first | omega | (simp; done) | (simp; omega) | (simp at *; omega)) (by first | omega | (simp; done) | (simp; omega) | (simp at *; omega)) (fun w7 => .p (.assign (.t rfl) ?_)) rfl))))
    refine .nil ?_
    refine .frzOwn hC .z ?_
    refine .as 2 rfl .z ?_
    refine .ret ?_
    refine ⟨_, .r1 rfl (.tmp rfl), ?_⟩
    rw [List.nil_append]
def macEq (k : Tag) (m : List UInt8) (x : G_api_Mac) : Bool := decide (x.Key = k) && decide (x.Message = m)
theorem find1_c (k : Tag) (m : List UInt8) (x : G_api_Mac) : FunA gl Tryd.prog 87 [.v x, .p k, .p m] (fun r => r = .v (macEq k m x)) := by
  refine FunA.intro Tryd.func87 rfl (by kernel_rfl) 15 rfl rfl _ rfl fun C hC hG => ?_
  refine .seq ?_
  refine .region rfl ?_
  refine .h (.box (.t rfl) fun b3 => .p (.assign .b ?_))
  refine .nil ?_
  refine .seq ?_
  refine .region rfl ?_
  refine .p (.fldW G_api_Mac.l0 fd38_0 rfl (.t rfl) (.p (.ldF (fun x => x.Key) ty28 (.t rfl) .z (fun _ => rfl) (.p (.ldP ty28 (.t rfl) (.p (.eqlA8 Tryd.underlying28 sz5 Tryd.underlying5 gd28 (.t rfl) (.t rfl) (.p (.move (.t rfl) ?_)))))))))
  refine .go 9 rfl (.t rfl) (fun hg10 => .fldW G_api_Mac.l1 fd38_1 rfl (.t rfl) rfl) ?_
  refine .go 9 rfl (.t rfl) (fun hg11 => .ldF (fun x => x.Message) ty23 (.o rfl (beq_iff_eq.2 hg11)) .z (fun _ => rfl) rfl) ?_
  refine .go 9 rfl (.t rfl) (fun hg12 => .ldP ty23 (.t rfl) rfl) ?_
  refine .go 9 rfl (.t rfl) (fun hg13 => .call1 hG (bytesEqual_c _ _) (.cons (.o rfl (beq_iff_eq.2 hg13)) (.cons (.o rfl (beq_iff_eq.2 hg13)) .nil)) rfl) ?_
  refine .p (.pickAnd (.t rfl) (fun hp => (.o rfl (beq_iff_eq.2 hp))) (.p (.assign (.t rfl) ?_)))
  refine .nil ?_
  refine .ret ?_
  refine ⟨_, .r1 rfl (.tmp rfl), ?_⟩
  rfl
/-- The place of the first element that p takes, or -1. -/
def idx {α : Type} (l : List α) (p : α → Bool) : Int := if l.findIdx p < l.length then (l.findIdx p : Int) else -1
theorem idx_at {α : Type} {l : List α} {p : α → Bool} {k : Nat} (h : k < l.length) (h1 : p l[k] = true) (h2 : ∀ j (hj : j < l.length), j < k → p l[j] = false) : idx l p = (k : Int) := by
  have e : l.findIdx p = k := (List.findIdx_eq h).2 ⟨h1, fun j hj => h2 j (by omega) hj⟩
  unfold idx; rw [e, if_pos h]
theorem idx_none {α : Type} {l : List α} {p : α → Bool} (h : ∀ j (hj : j < l.length), p l[j] = false) : idx l p = -1 := by
  have e : l.findIdx p = l.length := List.findIdx_eq_length.2 fun x hx => by
    obtain ⟨j, hj, rfl⟩ := List.getElem_of_mem hx
    exact h j hj
  unfold idx; rw [e, if_neg (by omega)]
theorem indexMac_c (l : List G_api_Mac) (p : G_api_Mac → Bool) : FunA gl Tryd.prog 86 [.v l, .clo1 Tryd.prog p] (fun r => r = .v (idx l p)) := by
  refine FunA.intro Tryd.func86 rfl (by kernel_rfl) 19 rfl rfl _ rfl fun C hC hG => ?_
  refine .seq ?_
  refine .region rfl ?_
  refine .p (.assign (.i rfl) ?_)
  refine .nil ?_
  refine .seq ?_
  refine .seq ?_
  refine .lenLe 0 rfl fun hl0 => ?_
  refine .region rfl ?_
  refine .p (.move (.t rfl) (.p (.len Tryd.underlying29 (.t rfl) (.p (.move (.i rfl) ?_)))))
  refine .nil ?_
  refine .block ?_
  refine .loopR (α := Nat) [(0, _), (1, _), (7, _)] (fun k R => (8, .v (k : Int)) :: R) (fun k => []) (fun k => k ≤ l.length ∧ ∀ j (hj : j < l.length), j < k → p l[j] = false) (fun k => l.length - k) (0) (.cons rfl (.cons rfl (.cons rfl (.nil _)))) ?_ (.cons rfl (.cons rfl (.cons rfl (.cons rfl (.nil _))))) (rfl) fun k hF => ?_
  · simp
  obtain ⟨h1, h2⟩ := hF
  refine .seq ?_
  refine .region rfl ?_
  refine .p (.lss (.t rfl) (.t rfl) ?_)
  refine .nil ?_
  refine .seq ?_
  refine .condP (.t rfl) (fun hc9 => ?_) (fun hc9 => ?_)
  · refine .skip ?_
    refine .seq ?_
    refine .block ?_
    refine .seq ?_
    refine .region rfl ?_
    refine .p (.move (.t rfl) (.p (.assign (.t rfl) ?_)))
    refine .nil ?_
    refine .seq ?_
    refine .region rfl ?_
    refine .p (.move (.t rfl) (.p (.move (.t rfl) (.p (.move (.t rfl) (.p (.idx ty38 Tryd.underlying29 (.t rfl) (.t rfl) (by first | omega | (simp; done) | (simp; omega) | (simp at *; omega)) (by first | omega | (simp; done) | (simp; omega) | (simp at *; omega)) (.p (.ldP ty38 (.t rfl) (.p (.callClo1 rfl (.t rfl) ?_)))))))))))
    refine .nil ?_
    refine .cond (.t rfl) (fun hc16 => ?_) (fun hc16 => ?_)
    · refine .seq ?_
      refine .region rfl ?_
      refine .p (.move (.t rfl) (.p (.assign (.t rfl) ?_)))
      refine .nil ?_
      refine .ret ?_
      refine ⟨_, .r1 rfl (.tmp rfl), ?_⟩
      rw [idx_at (by omega) (by simpa using hc16) h2]
    · refine .skip ?_
      refine .region rfl ?_
      refine .p (.add (.t rfl) (.i rfl) (by first | omega | (simp; done) | (simp; omega) | (simp at *; omega)) (by first | omega | (simp; done) | (simp; omega) | (simp at *; omega)) (.p (.move (.t rfl) ?_)))
      refine .nil ?_
      refine ⟨k + 1, .cons rfl (.cons rfl (.cons rfl (.cons rfl (.nil _)))), rfl, ?_, by omega⟩
      refine ⟨by omega, fun j hj hjk => ?_⟩; rcases Nat.lt_or_ge j k with h | h; exact h2 j hj h; (obtain rfl : j = k := by omega); simpa using hc16
  · refine .exit ?_
    refine .seq ?_
    refine .region rfl ?_
    refine .p (.assign (.i rfl) ?_)
    refine .nil ?_
    refine .ret ?_
    refine ⟨_, .r1 rfl (.tmp rfl), ?_⟩
    rw [idx_none fun j hj => h2 j hj (by omega)]
theorem find_c (l : List G_api_Mac) (k : Tag) (m : List UInt8) : FunA gl Tryd.prog 58 [.v l, .v k, .v m] (fun r => r = .v (idx l (macEq k m))) := by
  refine FunA.intro Tryd.func58 rfl (by kernel_rfl) 10 rfl rfl _ rfl fun C hC hG => ?_
  refine .seq ?_
  refine .region rfl ?_
  refine .h (.box (.t rfl) fun b4 => .h (.box (.t rfl) fun b5 => .p (.assign (.i rfl) ?_)))
  refine .nil ?_
  refine .seq ?_
  refine .frzOb hC (.s .z) ?_
  refine .asP 4 rfl (.s .z) ?_
  refine .frzOb hC .z ?_
  refine .asP 5 rfl .z ?_
  refine .region rfl ?_
  refine .p (.move (.t rfl) (.p (.mkClo1 hG (fun x => find1_c k m x) (.cons (.t rfl) (.cons (.t rfl) .nil)) (.p (.call1 hG (indexMac_c _ _) (.cons (.t rfl) (.cons (.t rfl) .nil)) (.p (.assign (.t rfl) ?_)))))))
  refine .nil ?_
  refine .ret ?_
  refine ⟨_, .r1 rfl (.tmp rfl), ?_⟩
  rfl
theorem clipMac_c (l : List G_api_Mac) : FunA gl Tryd.prog 81 [.v l] (fun r => r = .vc l) := by
  refine FunA.intro Tryd.func81 rfl (by kernel_rfl) 9 rfl rfl _ rfl fun C hC hG => ?_
  refine .seq ?_
  refine .region rfl ?_
  refine .p (.assign (.nilS (α := G_api_Mac)) ?_)
  refine .nil ?_
  refine .seq ?_
  refine .region rfl ?_
  refine .p (.move (.t rfl) (.p (.move (.t rfl) (.p (.len Tryd.underlying29 (.t rfl) (.p (.move (.t rfl) (.p (.len Tryd.underlying29 (.t rfl) (.p (.slClip ty38 Tryd.underlying29 (.t rfl) (.t rfl) (.t rfl) ?_)))))))))))
  refine .p (.assign (.t rfl) ?_)
  refine .nil ?_
  refine .ret ?_
  refine ⟨_, .r1 rfl (.tmp rfl), ?_⟩
  rfl
theorem clipSealed_c (l : List G_api_Sealed) : FunA gl Tryd.prog 82 [.v l] (fun r => r = .vc l) := by
  refine FunA.intro Tryd.func82 rfl (by kernel_rfl) 9 rfl rfl _ rfl fun C hC hG => ?_
  refine .seq ?_
  refine .region rfl ?_
  refine .p (.assign (.nilS (α := G_api_Sealed)) ?_)
  refine .nil ?_
  refine .seq ?_
  refine .region rfl ?_
  refine .p (.move (.t rfl) (.p (.move (.t rfl) (.p (.len Tryd.underlying30 (.t rfl) (.p (.move (.t rfl) (.p (.len Tryd.underlying30 (.t rfl) (.p (.slClip ty56 Tryd.underlying30 (.t rfl) (.t rfl) (.t rfl) ?_)))))))))))
  refine .p (.assign (.t rfl) ?_)
  refine .nil ?_
  refine .ret ?_
  refine ⟨_, .r1 rfl (.tmp rfl), ?_⟩
  rfl
end Go.Proofs.YtiekhjbhlekaeaaDoor
