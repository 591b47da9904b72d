/- Walks of package algebra's functions over the maker. -/
import Derived.Test.YtiekhjbhlekaeaaDoorMk
set_option maxRecDepth 1000000
set_option linter.unusedVariables false
set_option linter.unusedSimpArgs false
namespace Go.Proofs.YtiekhjbhlekaeaaDoor
open Go.Fl Go.Ab Go.Mac Go.Sha
theorem algMac_err {a : Alg} {k : Tag} {m : List UInt8} (h : (algMac a k m).2.2 ≠ 0) : algMac a k m = (default, default, (algMac a k m).2.2) := by
  by_cases h1 : 4096 < m.length
  · rw [algMac_long h1]
  · cases h2 : algFind a k m with
    | some x =>
      have e : algMac a k m = (a, x.Tag, 0) := by unfold algMac; rw [if_neg h1, h2]
      rw [e] at h; exact absurd rfl h
    | none =>
      by_cases h3 : 65536 ≤ a.Macs.length
      · rw [algMac_full h1 h2 h3]
      · rw [algMac_new h1 h2 h3] at h; exact absurd rfl h
theorem algKey_err {a : Alg} (h : (algKey a).2.2 ≠ 0) : algKey a = (default, default, (algKey a).2.2) := by
  unfold algKey at *
  split
  · rfl
  · next h1 => rw [if_neg h1] at h; exact absurd rfl h
theorem mkMac_done {a : Alg} {k : Tag} {m : List UInt8} : (if (mkMac a 0 k m).2.2 ≠ 0 then default else (mkMac a 0 k m).2.1) = (algMac a k m).1 ∧ (mkMac a 0 k m).1 = (algMac a k m).2.1 ∧ (mkMac a 0 k m).2.2 = (algMac a k m).2.2 := by
  have e : mkMac a 0 k m = ((algMac a k m).2.1, if (algMac a k m).2.2 = 0 then (algMac a k m).1 else a, (algMac a k m).2.2) := by unfold mkMac; rw [if_neg (by decide)]
  rw [e]
  refine ⟨?_, rfl, rfl⟩
  by_cases h : (algMac a k m).2.2 = 0
  · rw [if_neg (by simpa using h), if_pos h]
  · rw [if_pos (by simpa using h), algMac_err h]
theorem mkKey_done {a : Alg} : (if (mkKey a 0).2.2 ≠ 0 then default else (mkKey a 0).2.1) = (algKey a).1 ∧ (mkKey a 0).1 = (algKey a).2.1 ∧ (mkKey a 0).2.2 = (algKey a).2.2 := by
  have e : mkKey a 0 = ((algKey a).2.1, if (algKey a).2.2 = 0 then (algKey a).1 else a, (algKey a).2.2) := by unfold mkKey; rw [if_neg (by decide)]
  rw [e]
  refine ⟨?_, rfl, rfl⟩
  by_cases h : (algKey a).2.2 = 0
  · rw [if_neg (by simpa using h), if_pos h]
  · rw [if_pos (by simpa using h), algKey_err h]
theorem algMac_c (a : Alg) (k : Tag) (m : List UInt8) (hl : a.Macs.length ≤ 1000000) : FunA gl Tryd.prog 21 [.v a, .v k, .v m] (fun r => r = .t3 (.v (algMac a k m).1) (.v (algMac a k m).2.1) (.v (algMac a k m).2.2)) := by
  refine FunA.intro Tryd.func21 rfl (by kernel_rfl) 27 rfl rfl _ rfl fun C hC hG => ?_
  refine .seq ?_
  refine .region rfl ?_
  refine .h (.box (.t rfl) fun b3 => .h (.box (.t rfl) fun b4 => .h (.alloc ty32 fun b6 => .h (.alloc ty28 fun b7 => .p (.assign (.i rfl) ?_)))))
  refine .nil ?_
  refine .seq ?_
  refine .region rfl ?_
  refine .p (.ldW ty32 (.t rfl) (.s (.s (.s .z))) (.h (.call0 hG (Begin_c _) (.cons (.t rfl) .nil) fun r14 Hs14 hr14 => ?_)))
  obtain ⟨w14, x14, rfl, rfl, ha14, he14⟩ := hr14
  show wpB _ _ _ _ _ _ _ ((true, _) :: _)
  refine .p (.assign (.t rfl) ?_)
  refine .nil ?_
  refine .seq ?_
  refine .region rfl ?_
  refine .p (.move (.t rfl) (.p (.ldW ty28 (.t rfl) (.s (.s (.s .z))) (.p (.move (.t rfl) (.h (.callM hG (Mac_mk _ _ _ _ (by rw [ha14]; exact hl)) .z (.cons (.t rfl) (.cons (.t rfl) (.cons (.t rfl) .nil))) (by rintro _ _ ⟨_, rfl, _⟩; exact ⟨_, rfl⟩) fun r18 B18 hr18 => ?_)))))))
  obtain ⟨x18, hB, rfl, ha18, he18⟩ := hr18
  cases hB
  refine .h (.alloc ty28 fun b10 => .n (.stW ty28 (.t rfl) (.t rfl) .z ?_))
  refine .nil ?_
  refine .seq ?_
  refine .region rfl ?_
  refine .p (.move (.t rfl) (.h (.callM hG (Done_mk _ _) (.s .z) (.cons (.t rfl) .nil) (by rintro _ _ ⟨_, rfl, _⟩; exact ⟨_, rfl⟩) fun r21 B21 hr21 => ?_)))
  obtain ⟨x21, hB, rfl, rfl⟩ := hr21
  cases hB
  refine .p (.move (.t rfl) (.p (.ext2_0 (.t rfl) ?_)))
  refine mkDoneB hC 22 rfl (.s .z) ?_
  refine .p (.ext2_1 (.t rfl) (.h (.alloc ty32 fun b11 => .n (.stW ty32 (.t rfl) (.t rfl) .z (.p (.assign (.t rfl) ?_))))))
  refine .nil ?_
  refine .seq ?_
  refine .drawCF [false, false, false, true, true, false, false] (by kernel_rfl) 6 [[], [], [], [(24, 0)], [(25, 1)], [(26, 2)]] [3, 4] rfl (by kernel_rfl) rfl (by kernel_rfl) (by decide) ?_
  refine ⟨_, fun H => OpP.ldW ty32 (.t rfl) (Hole.app .z) rfl, ?_⟩
  refine ⟨_, fun H => OpP.ldW ty28 (.t rfl) (Hole.app (.s .z)) rfl, ?_⟩
  refine ⟨_, fun H => OpP.move (.t rfl) rfl, ?_⟩
  refine .inl ?_
  refine .inl ?_
  refine ⟨_, fun H => OpP.assign (.t rfl) rfl, ?_⟩
  refine ⟨⟨([], fun k => List.getD [(true, .none_), (true, .none_), (true, .none_), _, _, (true, .none_), (true, .none_)] k (true, .none_)), rfl⟩, ?_⟩
  refine OpH.stW ty32 (.t rfl) (.t rfl) (.s (.s (.s (.s .z)))) ?_
  refine ⟨⟨([], fun k => List.getD [(true, .none_), (true, .none_), (true, .none_), _, _, (true, .none_), (true, .none_)] k (true, .none_)), rfl⟩, ?_⟩
  refine OpH.stW ty28 (.t rfl) (.t rfl) (.s (.s (.s .z))) ?_
  refine ⟨⟨([], fun k => List.getD [(true, .none_), (true, .none_), (true, .none_), _, _, (true, .none_), (true, .none_)] k (true, .none_)), rfl⟩, ?_⟩
  show wpB _ _ _ _ _ _ ((8, _) :: (26, _) :: (25, _) :: (24, _) :: _) _
  refine .nil ?_
  refine .ret ?_
  refine ⟨_, .r3 rfl (.cell ty32 rfl (.s (.s (.s (.s .z))))) (.cell ty28 rfl (.s (.s (.s .z)))) (.tmp rfl), ?_⟩
  rw [ha18, he18, ha14, he14, mkMac_done.1, mkMac_done.2.1, mkMac_done.2.2]
theorem algKey_c (a : Alg) (h0 : 0 ≤ a.Fresh) : FunA gl Tryd.prog 27 [.v a] (fun r => r = .t3 (.v (algKey a).1) (.v (algKey a).2.1) (.v (algKey a).2.2)) := by
  refine FunA.intro Tryd.func27 rfl (by kernel_rfl) 21 rfl rfl _ rfl fun C hC hG => ?_
  refine .seq ?_
  refine .region rfl ?_
  refine .h (.box (.t rfl) fun b1 => .h (.alloc ty32 fun b2 => .h (.alloc ty28 fun b3 => .p (.assign (.i rfl) ?_))))
  refine .nil ?_
  refine .seq ?_
  refine .region rfl ?_
  refine .p (.ldW ty32 (.t rfl) (.s (.s .z)) (.h (.call0 hG (Begin_c _) (.cons (.t rfl) .nil) fun r10 Hs10 hr10 => ?_)))
  obtain ⟨w10, x10, rfl, rfl, ha10, he10⟩ := hr10
  show wpB _ _ _ _ _ _ _ ((true, _) :: _)
  refine .p (.assign (.t rfl) ?_)
  refine .nil ?_
  refine .seq ?_
  refine .region rfl ?_
  refine .p (.move (.t rfl) (.h (.callM hG (Key_mk _ _ (by rw [ha10]; exact h0)) .z (.cons (.t rfl) .nil) (by rintro _ _ ⟨_, rfl, _⟩; exact ⟨_, rfl⟩) fun r12 B12 hr12 => ?_)))
  obtain ⟨x12, hB, rfl, ha12, he12⟩ := hr12
  cases hB
  refine .h (.alloc ty28 fun b6 => .n (.stW ty28 (.t rfl) (.t rfl) .z ?_))
  refine .nil ?_
  refine .seq ?_
  refine .region rfl ?_
  refine .p (.move (.t rfl) (.h (.callM hG (Done_mk _ _) (.s .z) (.cons (.t rfl) .nil) (by rintro _ _ ⟨_, rfl, _⟩; exact ⟨_, rfl⟩) fun r15 B15 hr15 => ?_)))
  obtain ⟨x15, hB, rfl, rfl⟩ := hr15
  cases hB
  refine .p (.move (.t rfl) (.p (.ext2_0 (.t rfl) ?_)))
  refine mkDoneB hC 16 rfl (.s .z) ?_
  refine .p (.ext2_1 (.t rfl) (.h (.alloc ty32 fun b7 => .n (.stW ty32 (.t rfl) (.t rfl) .z (.p (.assign (.t rfl) ?_))))))
  refine .nil ?_
  refine .seq ?_
  refine .drawCF [false, false, false, true, true, false] (by kernel_rfl) 6 [[], [], [], [(18, 0)], [(19, 1)], [(20, 2)]] [3, 4] rfl (by kernel_rfl) rfl (by kernel_rfl) (by decide) ?_
  refine ⟨_, fun H => OpP.ldW ty32 (.t rfl) (Hole.app .z) rfl, ?_⟩
  refine ⟨_, fun H => OpP.ldW ty28 (.t rfl) (Hole.app (.s .z)) rfl, ?_⟩
  refine ⟨_, fun H => OpP.move (.t rfl) rfl, ?_⟩
  refine .inl ?_
  refine .inl ?_
  refine ⟨_, fun H => OpP.assign (.t rfl) rfl, ?_⟩
  refine ⟨⟨([], fun k => List.getD [(true, .none_), (true, .none_), (true, .none_), _, _, (true, .none_)] k (true, .none_)), rfl⟩, ?_⟩
  refine OpH.stW ty32 (.t rfl) (.t rfl) (.s (.s (.s (.s .z)))) ?_
  refine ⟨⟨([], fun k => List.getD [(true, .none_), (true, .none_), (true, .none_), _, _, (true, .none_)] k (true, .none_)), rfl⟩, ?_⟩
  refine OpH.stW ty28 (.t rfl) (.t rfl) (.s (.s (.s .z))) ?_
  refine ⟨⟨([], fun k => List.getD [(true, .none_), (true, .none_), (true, .none_), _, _, (true, .none_)] k (true, .none_)), rfl⟩, ?_⟩
  show wpB _ _ _ _ _ _ ((4, _) :: (20, _) :: (19, _) :: (18, _) :: _) _
  refine .nil ?_
  refine .ret ?_
  refine ⟨_, .r3 rfl (.cell ty32 rfl (.s (.s (.s (.s .z))))) (.cell ty28 rfl (.s (.s (.s .z)))) (.tmp rfl), ?_⟩
  rw [ha12, he12, ha10, he10, mkKey_done.1, mkKey_done.2.1, mkKey_done.2.2]
theorem algLook_c (a : Alg) (k : Tag) (m : List UInt8) : FunA gl Tryd.prog 25 [.v a, .v k, .v m] (fun r => r = .t2 (.v (algLook a k m).1) (.v (algLook a k m).2)) := by
  refine FunA.intro Tryd.func25 rfl (by kernel_rfl) 32 rfl rfl _ rfl fun C hC hG => ?_
  refine .seq ?_
  refine .region rfl ?_
  refine .h (.box (.t rfl) fun b3 => .h (.box (.t rfl) fun b4 => .h (.alloc ty28 fun b6 => .p (.assign .b ?_))))
  refine .nil ?_
  refine .seq ?_
  refine .seq ?_
  refine .frzOb hC (.s .z) ?_
  refine .asP 4 rfl (.s .z) ?_
  refine .frzOb hC (.s (.s .z)) ?_
  refine .asP 3 rfl (.s (.s .z)) ?_
  refine .region rfl ?_
  refine .p (.fldPF G_api_Algebra.l0 (fun x => x.Free) fd32_0 rfl (fun _ => rfl) (.t rfl) (.p (.ldP ty4 (.t rfl) ?_)))
  refine .nil ?_
  refine .cond (.t rfl) (fun hc10 => ?_) (fun hc10 => ?_)
  · refine .seq ?_
    refine .region rfl ?_
    refine .p (.fldPF G_api_Algebra.l3 (fun x => x.Macs) fd32_3 rfl (fun _ => rfl) (.t rfl) (.p (.ldP ty29 (.t rfl) (.p (.ldP ty28 (.t rfl) (.p (.move (.t rfl) (.p (.call1 hG (find_c _ _ _) (.cons (.t rfl) (.cons (.t rfl) (.cons (.t rfl) .nil))) (.p (.assign (.t rfl) ?_)))))))))))
    refine .nil ?_
    refine .seq ?_
    refine .seq ?_
    refine .region rfl ?_
    refine .p (.move (.t rfl) (.p (.lss (.t rfl) (.i rfl) ?_)))
    refine .nil ?_
    refine .condP (.t rfl) (fun hc17 => ?_) (fun hc17 => ?_)
    · refine .seq ?_
      refine .region rfl ?_
      refine .p (.buildA (default : (Arr 32 UInt8)) ty28 ar28 .nil rfl (.n (.stW ty28 (.t rfl) (.t rfl) .z (.p (.assign .b ?_)))))
      refine .nil ?_
      refine .ret ?_
      refine ⟨_, .r2 rfl (.cell ty28 rfl .z) (.tmp rfl), ?_⟩
      have e : algLook a k m = (default, false) := by unfold algLook algEntry algFind; rw [if_pos hc10, idx_neg (by omega)]
      rw [e]
    · refine .skip ?_
      refine .seq ?_
      have hi7 : 0 ≤ idx a.Macs (macEq k m) := by simp at hc17; omega
      have hl7 := idx_lt hi7
      refine .region rfl ?_
      refine .p (.fldPF G_api_Algebra.l3 (fun x => x.Macs) fd32_3 rfl (fun _ => rfl) (.t rfl) (.p (.ldP ty29 (.t rfl) (.p (.move (.t rfl) (.p (.idx ty38 Tryd.underlying29 (.t rfl) (.t rfl) (by first | omega | (simp; done) | (simp; omega) | (simp at *; omega)) (by first | omega | (simp; done) | (simp; omega) | (simp at *; omega)) (.p (.fldPF G_api_Mac.l2 (fun x => x.Tag) fd38_2 rfl (fun _ => rfl) (.t rfl) (.p (.ldP ty28 (.t rfl) ?_)))))))))))
      refine .n (.stW ty28 (.t rfl) (.t rfl) .z (.p (.assign .b ?_)))
      refine .nil ?_
      refine .ret ?_
      refine ⟨_, .r2 rfl (.cell ty28 rfl .z) (.tmp rfl), ?_⟩
      have e : algLook a k m = (a.Macs[(idx a.Macs (macEq k m)).toNat].Tag, true) := by unfold algLook algEntry algFind; rw [if_pos hc10, idx_get hi7 (by omega)]
      rw [e]
  · refine .skip ?_
    refine .seq ?_
    refine .seq ?_
    refine .region rfl ?_
    refine .p (.move (.t rfl) (.p (.len Tryd.underlying23 (.t rfl) (.p (.gtr (.t rfl) (.i rfl) ?_)))))
    refine .nil ?_
    refine .condP (.t rfl) (fun hc27 => ?_) (fun hc27 => ?_)
    · refine .seq ?_
      refine .region rfl ?_
      refine .p (.buildA (default : (Arr 32 UInt8)) ty28 ar28 .nil rfl (.n (.stW ty28 (.t rfl) (.t rfl) .z (.p (.assign .b ?_)))))
      refine .nil ?_
      refine .ret ?_
      refine ⟨_, .r2 rfl (.cell ty28 rfl .z) (.tmp rfl), ?_⟩
      have e : algLook a k m = (default, false) := by unfold algLook; rw [if_neg (by rw [show a.Free = false from hc10]; decide), if_pos (by omega)]
      rw [e]
    · refine .skip ?_
      refine .seq ?_
      refine .region rfl ?_
      refine .p (.slArrP (by decide) ar28 (.t rfl) (.p (.move (.t rfl) (.p (.call1 hG (hmacOf_c _ _ (by first | omega | (simp; done) | (simp; omega) | (simp at *; omega)) (by first | omega | (simp; done) | (simp; omega) | (simp at *; omega))) (.cons (.t rfl) (.cons (.t rfl) .nil)) (.n (.stW ty28 (.t rfl) (.t rfl) .z (.p (.assign .b ?_)))))))))
      refine .nil ?_
      refine .ret ?_
      refine ⟨_, .r2 rfl (.cell ty28 rfl .z) (.tmp rfl), ?_⟩
      have e : algLook a k m = (hmac k.l m, true) := by unfold algLook; rw [if_neg (by rw [show a.Free = false from hc10]; decide), if_neg (by omega)]
      rw [e]
end Go.Proofs.YtiekhjbhlekaeaaDoor
