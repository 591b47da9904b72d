/- Walks of the reference algebra: keys, entries, tags. -/
import Derived.Test.YtiekhjbhlekaeaaDoorAm
set_option maxRecDepth 1000000
set_option linter.unusedVariables false
set_option linter.unusedSimpArgs false
namespace Go.Proofs.YtiekhjbhlekaeaaDoor
open Go.Fl Go.Ab Go.Mac Go.Sha
abbrev Alg := G_api_Algebra
def freshStr : Str := ⟨[102, 114, 101, 115, 104]⟩
def algKey (a : Alg) : Alg × Tag × Int :=
  if 65536 ≤ a.Fresh then (default, default, 2) else
  (⟨a.Free, a.Seed, a.Fresh + 1, a.Macs, a.Boxes⟩, (if a.Free then symTag 107 (a.Fresh + 1) else (derive a.Seed freshStr (a.Fresh + 1)).1), 0)
def algFind (a : Alg) (k : Tag) (m : List UInt8) : Option G_api_Mac := a.Macs.find? (macEq k m)
def algEntry (a : Alg) (k : Tag) (m : List UInt8) : Tag × Bool := match algFind a k m with | some x => (x.Tag, true) | none => (default, false)
def newTag (a : Alg) (k : Tag) (m : List UInt8) : Tag := if a.Free then symTag 109 (a.Macs.length + 1) else hmac k.l m
def algMac (a : Alg) (k : Tag) (m : List UInt8) : Alg × Tag × Int :=
  if 4096 < m.length then (default, default, 2) else
  match algFind a k m with
  | some x => (a, x.Tag, 0)
  | none => if 65536 ≤ a.Macs.length then (default, default, 2) else
    (⟨a.Free, a.Seed, a.Fresh, a.Macs ++ [⟨k, m, newTag a k m⟩], a.Boxes⟩, newTag a k m, 0)
def algLook (a : Alg) (k : Tag) (m : List UInt8) : Tag × Bool :=
  if a.Free then algEntry a k m else if 4096 < m.length then (default, false) else (hmac k.l m, true)
theorem rKey_c (a : Alg) (h0 : 0 ≤ a.Fresh) : FunA gl Tryd.prog 28 [.v a] (fun r => r = .t3 (.v (algKey a).1) (.v (algKey a).2.1) (.v (algKey a).2.2)) := by
  refine FunA.intro Tryd.func28 rfl (by kernel_rfl) 32 rfl rfl _ rfl fun C hC hG => ?_
  refine .seq ?_
  refine .region rfl ?_
  refine .h (.box (.t rfl) fun b1 => .h (.alloc ty32 fun b2 => .h (.alloc ty28 fun b3 => .p (.assign (.i rfl) ?_))))
  refine .nil ?_
  refine .seq ?_
  refine .seq ?_
  refine .region rfl ?_
  refine .p (.fldW G_api_Algebra.l2 fd32_2 rfl (.t rfl) (.p (.ldF (fun x => x.Fresh) ty3 (.t rfl) (.s (.s .z)) (fun _ => rfl) (.p (.geq (.t rfl) (.i rfl) ?_)))))
  refine .nil ?_
  refine .condP (.t rfl) (fun hc9 => ?_) (fun hc9 => ?_)
  · refine .seq ?_
    refine .region rfl ?_
    refine .p (.bS0 (α := G_api_Algebra) rfl ty32 fo32 (.p (.buildA (default : (Arr 32 UInt8)) ty28 ar28 .nil rfl (.n (.stW ty32 (.t rfl) (.t rfl) (.s .z) (.n (.stW ty28 (.t rfl) (.t rfl) .z (.p (.assign (.i rfl) ?_)))))))))
    refine .nil ?_
    refine .ret ?_
    refine ⟨_, .r3 rfl (.cell ty32 rfl (.s .z)) (.cell ty28 rfl .z) (.tmp rfl), ?_⟩
    have e : algKey a = (default, default, 2) := by unfold algKey; rw [if_pos hc9]
    rw [e]
  · refine .skip ?_
    refine .seq ?_
    refine .region rfl ?_
    refine .p (.fldW G_api_Algebra.l2 fd32_2 rfl (.t rfl) (.p (.ldF (fun x => x.Fresh) ty3 (.t rfl) (.s (.s .z)) (fun _ => rfl) (.p (.add (.t rfl) (.i rfl) (by first | omega | (simp; done) | (simp; omega) | (simp at *; omega)) (by first | omega | (simp; done) | (simp; omega) | (simp at *; omega)) (.p (.fldW G_api_Algebra.l2 fd32_2 rfl (.t rfl) (.n (.stF (fun y x => { x with Fresh := y }) ty3 (.t rfl) (.t rfl) (.s (.s .z)) (fun _ _ => rfl) ?_)))))))))
    refine .nil ?_
    refine .seq ?_
    refine .seq ?_
    refine .region rfl ?_
    refine .p (.fldW G_api_Algebra.l0 fd32_0 rfl (.t rfl) (.p (.ldF (fun x => x.Free) ty4 (.t rfl) (.s (.s .z)) (fun _ => rfl) ?_)))
    refine .nil ?_
    refine .cond (.t rfl) (fun hc17 => ?_) (fun hc17 => ?_)
    · refine .seq ?_
      refine .draw (by kernel_rfl) 4 [[], [], [(19, 1)], [(20, 2)]] rfl (by kernel_rfl) rfl ?_
      refine ⟨_, OpP.ldW ty32 (.t rfl) (.s (.s .z)) rfl, ?_⟩
      refine ⟨_, OpP.fldW G_api_Algebra.l2 fd32_2 rfl (.t rfl) rfl, ?_⟩
      refine ⟨_, OpP.ldF (fun x => x.Fresh) ty3 (.t rfl) (.s (.s .z)) (fun _ => rfl) rfl, ?_⟩
      refine ⟨_, OpP.call1 hG (rSymbol_c _ _) (.cons (.u8 107 rfl) (.cons (.t rfl) .nil)) rfl, ?_⟩
      show wpB _ _ _ _ _ _ ((21, _) :: (20, _) :: (19, _) :: (18, _) :: _) _
      refine .n (.stW ty32 (.t rfl) (.t rfl) (.s .z) (.n (.stW ty28 (.t rfl) (.t rfl) .z (.p (.assign (.i rfl) ?_)))))
      refine .nil ?_
      refine .ret ?_
      refine ⟨_, .r3 rfl (.cell ty32 rfl (.s .z)) (.cell ty28 rfl .z) (.tmp rfl), ?_⟩
      have e : algKey a = (⟨a.Free, a.Seed, a.Fresh + 1, a.Macs, a.Boxes⟩, symTag 107 (a.Fresh + 1), 0) := by unfold algKey; rw [if_neg hc9, if_pos hc17]
      rw [e]
    · refine .skip ?_
      refine .seq ?_
      refine .region rfl ?_
      refine .p (.fldW G_api_Algebra.l1 fd32_1 rfl (.t rfl) (.p (.ldF (fun x => x.Seed) ty28 (.t rfl) (.s (.s .z)) (fun _ => rfl) (.p (.fldW G_api_Algebra.l2 fd32_2 rfl (.t rfl) (.p (.ldF (fun x => x.Fresh) ty3 (.t rfl) (.s (.s .z)) (fun _ => rfl) (.p (.call1 hG (rDerive_c _ _ _ (by decide)) (.cons (.t rfl) (.cons (.s [102, 114, 101, 115, 104] (by decide) (by decide)) (.cons (.t rfl) .nil))) (.p (.move (.t rfl) ?_)))))))))))
      refine .p (.ext2_0 (.t rfl) (.p (.ext2_1 (.t rfl) (.h (.alloc ty28 fun b5 => .n (.stW ty28 (.t rfl) (.t rfl) .z (.p (.assign (.t rfl) ?_))))))))
      refine .nil ?_
      refine .seq ?_
      refine .drawCF [false, true, true, false] (by kernel_rfl) 5 [[], [], [(30, 0)], [(31, 1)], []] [2, 3] rfl (by kernel_rfl) rfl (by kernel_rfl) (by decide) ?_
      refine ⟨_, fun H => OpP.ldW ty32 (.t rfl) (Hole.app (.s (.s (.s .z)))) rfl, ?_⟩
      refine ⟨_, fun H => OpP.ldW ty28 (.t rfl) (Hole.app .z) rfl, ?_⟩
      refine .inl ?_
      refine .inl ?_
      refine ⟨_, fun H => OpP.assign (.i rfl) rfl, ?_⟩
      refine ⟨⟨([], fun k => List.getD [(true, .none_), _, _, (true, .none_)] k (true, .none_)), rfl⟩, ?_⟩
      refine OpH.stW ty32 (.t rfl) (.t rfl) (.s (.s .z)) ?_
      refine ⟨⟨([], fun k => List.getD [(true, .none_), _, _, (true, .none_)] k (true, .none_)), rfl⟩, ?_⟩
      refine OpH.stW ty28 (.t rfl) (.t rfl) (.s .z) ?_
      refine ⟨⟨([], fun k => List.getD [(true, .none_), _, _, (true, .none_)] k (true, .none_)), rfl⟩, ?_⟩
      show wpB _ _ _ _ _ _ ((4, _) :: (31, _) :: (30, _) :: _) _
      refine .nil ?_
      refine .ret ?_
      refine ⟨_, .r3 rfl (.cell ty32 rfl (.s (.s .z))) (.cell ty28 rfl (.s .z)) (.tmp rfl), ?_⟩
      have e : algKey a = (⟨a.Free, a.Seed, a.Fresh + 1, a.Macs, a.Boxes⟩, (derive a.Seed freshStr (a.Fresh + 1)).1, 0) := by unfold algKey; rw [if_neg hc9, if_neg (by rw [show a.Free = false from hc17]; decide)]
      rw [e]; rfl
theorem find_some {l : List G_api_Mac} {p : G_api_Mac → Bool} {k : Nat} (h : k < l.length) (h1 : p l[k] = true) (h2 : ∀ j (hj : j < l.length), j < k → p l[j] = false) : l.find? p = some l[k] :=
  List.find?_eq_some_iff_getElem.2 ⟨h1, k, h, rfl, fun j hj => by rw [h2 j (by omega) hj]; rfl⟩
theorem find_none {l : List G_api_Mac} {p : G_api_Mac → Bool} (h : ∀ j (hj : j < l.length), p l[j] = false) : l.find? p = none :=
  List.find?_eq_none.2 fun x hx => by
    obtain ⟨j, hj, rfl⟩ := List.getElem_of_mem hx
    rw [h j hj]; decide
theorem rEntry_c (a : Alg) (k : Tag) (m : List UInt8) : FunA gl Tryd.prog 56 [.v a, .v k, .v m] (fun r => r = .t2 (.v (algEntry a k m).1) (.v (algEntry a k m).2)) := by
  refine FunA.intro Tryd.func56 rfl (by kernel_rfl) 41 rfl rfl _ rfl fun C hC hG => ?_
  refine .seq ?_
  refine .region rfl ?_
  refine .h (.box (.t rfl) fun b3 => .h (.box (.t rfl) fun b4 => .h (.alloc ty28 fun b6 => .p (.assign .b ?_))))
  refine .nil ?_
  refine .seq ?_
  refine .seq ?_
  refine .frzOb hC (.s .z) ?_
  refine .asP 4 rfl (.s .z) ?_
  refine .frzOb hC (.s (.s .z)) ?_
  refine .asP 3 rfl (.s (.s .z)) ?_
  refine .region rfl ?_
  refine .p (.assign (.i rfl) ?_)
  refine .nil ?_
  refine .block ?_
  refine .loopR (α := Nat) [(2, _), (3, _), (4, _), (6, _)] (fun i R => (8, .v (i : Int)) :: R) (fun i => [(true, .ob (ptr b6 0) (default : Tag)), (true, .fz (ptr b4 0) (.p k)), (true, .fz (ptr b3 0) (.p a))]) (fun i => i ≤ a.Macs.length ∧ ∀ j (hj : j < a.Macs.length), j < i → macEq k m a.Macs[j] = false) (fun i => a.Macs.length - i) (0) (.cons rfl (.cons rfl (.cons rfl (.cons rfl (.nil _))))) ?_ (.cons rfl (.cons rfl (.cons rfl (.cons rfl (.cons rfl (.nil _)))))) (rfl) fun i hF => ?_
  · simp
  obtain ⟨h1, h2⟩ := hF
  refine .seq ?_
  refine .seq ?_
  refine .region rfl ?_
  refine .p (.move (.t rfl) (.p (.fldPF G_api_Algebra.l3 (fun x => x.Macs) fd32_3 rfl (fun _ => rfl) (.t rfl) (.p (.ldP ty29 (.t rfl) (.p (.len Tryd.underlying29 (.t rfl) (.p (.lss (.t rfl) (.t rfl) ?_)))))))))
  refine .nil ?_
  refine .condP (.t rfl) (fun hc13 => ?_) (fun hc13 => ?_)
  · refine .skip ?_
    refine .seq ?_
    refine .block ?_
    refine .seq ?_
    refine .draw (by kernel_rfl) 18 [[], [(16, 0)], [], [(17, 1), (18, 2)], [(19, 3)], [(20, 4)], [], [(21, 5), (22, 6)], [(23, 7)], [], [(25, 9)], [], [(26, 10), (27, 11)], [(28, 12)], [(29, 13)], [], [(30, 14), (31, 15)], [(24, 8), (32, 16)]] rfl (by kernel_rfl) rfl ?_
    refine ⟨_, OpP.fldPF G_api_Algebra.l3 (fun x => x.Macs) fd32_3 rfl (fun _ => rfl) (.t rfl) rfl, ?_⟩
    refine ⟨_, OpP.ldP ty29 (.t rfl) rfl, ?_⟩
    refine ⟨_, OpP.move (.t rfl) rfl, ?_⟩
    refine ⟨_, OpP.idx ty38 Tryd.underlying29 (.t rfl) (.t rfl) (by first | omega | (simp; done) | (simp; omega) | (simp at *; omega)) (by first | omega | (simp; done) | (simp; omega) | (simp at *; omega)) rfl, ?_⟩
    refine ⟨_, OpP.fldPF G_api_Mac.l0 (fun x => x.Key) fd38_0 rfl (fun _ => rfl) (.t rfl) rfl, ?_⟩
    refine ⟨_, OpP.ldP ty28 (.t rfl) rfl, ?_⟩
    refine ⟨_, OpP.ldP ty28 (.t rfl) rfl, ?_⟩
    refine ⟨_, OpP.eqlA8 Tryd.underlying28 sz5 Tryd.underlying5 gd28 (.t rfl) (.t rfl) rfl, ?_⟩
    refine ⟨_, OpP.move (.t rfl) rfl, ?_⟩
    refine ⟨_, ⟨_, _, rfl, rfl, fun hg25 => OpP.fldPF G_api_Algebra.l3 (fun x => x.Macs) fd32_3 rfl (fun _ => rfl) (.t rfl) rfl⟩, ?_⟩
    refine ⟨_, ⟨_, _, rfl, rfl, fun hg26 => OpP.ldP ty29 (.o rfl (beq_iff_eq.2 hg26)) rfl⟩, ?_⟩
    refine ⟨_, ⟨_, _, rfl, rfl, fun hg27 => OpP.move (.t rfl) rfl⟩, ?_⟩
    refine ⟨_, ⟨_, _, rfl, rfl, fun hg28 => OpP.idx ty38 Tryd.underlying29 (.o rfl (beq_iff_eq.2 hg28)) (.o rfl (beq_iff_eq.2 hg28)) (by first | omega | (simp; omega) | (have := hg28; simp at this; omega)) (by first | omega | (simp; omega) | (have := hg28; simp at this; omega)) rfl⟩, ?_⟩
    refine ⟨_, ⟨_, _, rfl, rfl, fun hg29 => OpP.fldPF G_api_Mac.l1 (fun x => x.Message) fd38_1 rfl (fun _ => rfl) (.o rfl (beq_iff_eq.2 hg29)) rfl⟩, ?_⟩
    refine ⟨_, ⟨_, _, rfl, rfl, fun hg30 => OpP.ldP ty23 (.o rfl (beq_iff_eq.2 hg30)) rfl⟩, ?_⟩
    refine ⟨_, ⟨_, _, rfl, rfl, fun hg31 => OpP.move (.t rfl) rfl⟩, ?_⟩
    refine ⟨_, ⟨_, _, rfl, rfl, fun hg32 => OpP.call1 hG (Same_c _ _) (.cons (.o rfl (beq_iff_eq.2 hg32)) (.cons (.o rfl (beq_iff_eq.2 hg32)) .nil)) rfl⟩, ?_⟩
    refine ⟨_, OpP.pickAnd (.t rfl) (fun hp => (.o rfl (beq_iff_eq.2 hp))) rfl, ?_⟩
    show wpB _ _ _ _ _ _ ((33, _) :: (32, _) :: (31, _) :: (30, _) :: (29, _) :: (28, _) :: (27, _) :: (26, _) :: (25, _) :: (24, _) :: (23, _) :: (22, _) :: (21, _) :: (20, _) :: (19, _) :: (18, _) :: (17, _) :: (16, _) :: _) _
    refine .nil ?_
    refine .cond (.t rfl) (fun hc33 => ?_) (fun hc33 => ?_)
    · refine .seq ?_
      refine .region rfl ?_
      refine .p (.fldPF G_api_Algebra.l3 (fun x => x.Macs) fd32_3 rfl (fun _ => rfl) (.t rfl) (.p (.ldP ty29 (.t rfl) (.p (.move (.t rfl) (.p (.idx ty38 Tryd.underlying29 (.t rfl) (.t rfl) (by first | omega | (simp; done) | (simp; omega) | (simp at *; omega)) (by first | omega | (simp; done) | (simp; omega) | (simp at *; omega)) (.p (.fldPF G_api_Mac.l2 (fun x => x.Tag) fd38_2 rfl (fun _ => rfl) (.t rfl) (.p (.ldP ty28 (.t rfl) ?_)))))))))))
      refine .n (.stW ty28 (.t rfl) (.t rfl) .z (.p (.assign .b ?_)))
      refine .nil ?_
      refine .ret ?_
      refine ⟨_, .r2 rfl (.cell ty28 rfl .z) (.tmp rfl), ?_⟩
      have e : algEntry a k m = (a.Macs[i].Tag, true) := by unfold algEntry algFind; rw [find_some (k := i) (by omega) hc33 h2]
      rw [e]; rfl
    · refine .skip ?_
      refine .lenLe 11 rfl fun hl11 => ?_
      refine .region rfl ?_
      refine .p (.move (.t rfl) (.p (.add (.t rfl) (.i rfl) (by first | omega | (simp; done) | (simp; omega) | (simp at *; omega)) (by first | omega | (simp; done) | (simp; omega) | (simp at *; omega)) (.p (.assign (.t rfl) ?_)))))
      refine .nil ?_
      refine ⟨i + 1, .cons rfl (.cons rfl (.cons rfl (.cons rfl (.cons rfl (.nil _))))), rfl, ?_, by omega⟩
      refine ⟨by omega, fun j hj hji => ?_⟩; rcases Nat.lt_or_ge j i with h | h; exact h2 j hj h; (obtain rfl : j = i := by omega); exact hc33
  · refine .exit ?_
    refine .seq ?_
    refine .region rfl ?_
    refine .p (.buildA (default : (Arr 32 UInt8)) ty28 ar28 .nil rfl (.n (.stW ty28 (.t rfl) (.t rfl) .z (.p (.assign .b ?_)))))
    refine .nil ?_
    refine .ret ?_
    refine ⟨_, .r2 rfl (.cell ty28 rfl .z) (.tmp rfl), ?_⟩
    have e : algEntry a k m = (default, false) := by unfold algEntry algFind; rw [find_none fun j hj => h2 j hj (by omega)]
    rw [e]
theorem rLook_c (a : Alg) (k : Tag) (m : List UInt8) : FunA gl Tryd.prog 26 [.v a, .v k, .v m] (fun r => r = .t2 (.v (algLook a k m).1) (.v (algLook a k m).2)) := by
  refine FunA.intro Tryd.func26 rfl (by kernel_rfl) 23 rfl rfl _ rfl fun C hC hG => ?_
  refine .seq ?_
  refine .region rfl ?_
  refine .h (.box (.t rfl) fun b3 => .h (.box (.t rfl) fun b4 => .h (.alloc ty28 fun b6 => .p (.assign .b ?_))))
  refine .nil ?_
  refine .seq ?_
  refine .seq ?_
  refine .frzOb hC (.s .z) ?_
  refine .asP 4 rfl (.s .z) ?_
  refine .frzOb hC (.s (.s .z)) ?_
  refine .asP 3 rfl (.s (.s .z)) ?_
  refine .region rfl ?_
  refine .p (.fldPF G_api_Algebra.l0 (fun x => x.Free) fd32_0 rfl (fun _ => rfl) (.t rfl) (.p (.ldP ty4 (.t rfl) ?_)))
  refine .nil ?_
  refine .cond (.t rfl) (fun hc9 => ?_) (fun hc9 => ?_)
  · refine .seq ?_
    refine .region rfl ?_
    refine .p (.ldP ty32 (.t rfl) (.p (.ldP ty28 (.t rfl) (.p (.move (.t rfl) (.p (.call1 hG (rEntry_c _ _ _) (.cons (.t rfl) (.cons (.t rfl) (.cons (.t rfl) .nil))) (.p (.ext2_0 (.t rfl) (.p (.ext2_1 (.t rfl) ?_)))))))))))
    refine .n (.stW ty28 (.t rfl) (.t rfl) .z (.p (.assign (.t rfl) ?_)))
    refine .nil ?_
    refine .ret ?_
    refine ⟨_, .r2 rfl (.cell ty28 rfl .z) (.tmp rfl), ?_⟩
    have e : algLook a k m = algEntry a k m := by unfold algLook; rw [if_pos hc9]
    rw [e]
  · refine .skip ?_
    refine .seq ?_
    refine .seq ?_
    refine .region rfl ?_
    refine .p (.move (.t rfl) (.p (.len Tryd.underlying23 (.t rfl) (.p (.gtr (.t rfl) (.i rfl) ?_)))))
    refine .nil ?_
    refine .condP (.t rfl) (fun hc18 => ?_) (fun hc18 => ?_)
    · refine .seq ?_
      refine .region rfl ?_
      refine .p (.buildA (default : (Arr 32 UInt8)) ty28 ar28 .nil rfl (.n (.stW ty28 (.t rfl) (.t rfl) .z (.p (.assign .b ?_)))))
      refine .nil ?_
      refine .ret ?_
      refine ⟨_, .r2 rfl (.cell ty28 rfl .z) (.tmp rfl), ?_⟩
      have e : algLook a k m = (default, false) := by unfold algLook; rw [if_neg (by rw [show a.Free = false from hc9]; decide), if_pos (by omega)]
      rw [e]
    · refine .skip ?_
      refine .seq ?_
      refine .region rfl ?_
      refine .p (.slArrP (by decide) ar28 (.t rfl) (.p (.move (.t rfl) (.p (.call1 hG (rHmac_c _ _ (by first | omega | (simp; done) | (simp; omega) | (simp at *; omega)) (by first | omega | (simp; done) | (simp; omega) | (simp at *; omega))) (.cons (.t rfl) (.cons (.t rfl) .nil)) (.n (.stW ty28 (.t rfl) (.t rfl) .z (.p (.assign .b ?_)))))))))
      refine .nil ?_
      refine .ret ?_
      refine ⟨_, .r2 rfl (.cell ty28 rfl .z) (.tmp rfl), ?_⟩
      have e : algLook a k m = (hmac k.l m, true) := by unfold algLook; rw [if_neg (by rw [show a.Free = false from hc9]; decide), if_neg (by omega)]
      rw [e]
theorem algMac_long {a : Alg} {k : Tag} {m : List UInt8} (h : 4096 < m.length) : algMac a k m = (default, default, 2) := by unfold algMac; rw [if_pos h]
theorem algMac_found {a : Alg} {k : Tag} {m : List UInt8} (h : ¬ 4096 < m.length) (he : (algEntry a k m).2 = true) : algMac a k m = (a, (algEntry a k m).1, 0) := by
  unfold algMac; rw [if_neg h]; unfold algEntry at *
  cases hf : algFind a k m with
  | none => rw [hf] at he; cases he
  | some x => rfl
theorem entry_none {a : Alg} {k : Tag} {m : List UInt8} (he : (algEntry a k m).2 = false) : algFind a k m = none := by
  unfold algEntry at he
  cases hf : algFind a k m with
  | none => rfl
  | some x => rw [hf] at he; cases he
theorem algMac_full {a : Alg} {k : Tag} {m : List UInt8} (h : ¬ 4096 < m.length) (he : algFind a k m = none) (hl : 65536 ≤ a.Macs.length) : algMac a k m = (default, default, 2) := by
  unfold algMac; rw [if_neg h, he]; simp only []; rw [if_pos hl]
theorem algMac_new {a : Alg} {k : Tag} {m : List UInt8} (h : ¬ 4096 < m.length) (he : algFind a k m = none) (hl : ¬ 65536 ≤ a.Macs.length) :
    algMac a k m = (⟨a.Free, a.Seed, a.Fresh, a.Macs ++ [⟨k, m, newTag a k m⟩], a.Boxes⟩, newTag a k m, 0) := by
  unfold algMac; rw [if_neg h, he]; simp only []; rw [if_neg hl]
theorem newTag_free {a : Alg} {k : Tag} {m : List UInt8} (h : a.Free = true) : newTag a k m = symTag 109 (a.Macs.length + 1) := by unfold newTag; rw [if_pos h]
theorem newTag_real {a : Alg} {k : Tag} {m : List UInt8} (h : a.Free = false) : newTag a k m = hmac k.l m := by unfold newTag; rw [if_neg (by rw [h]; decide)]
theorem rMac_c (a : Alg) (k : Tag) (m : List UInt8) : FunA gl Tryd.prog 22 [.v a, .v k, .v m] (fun r => r = .t3 (.v (algMac a k m).1) (.v (algMac a k m).2.1) (.v (algMac a k m).2.2)) := by
  refine FunA.intro Tryd.func22 rfl (by kernel_rfl) 58 rfl rfl _ rfl fun C hC hG => ?_
  refine .seq ?_
  refine .region rfl ?_
  refine .h (.box (.t rfl) fun b3 => .h (.box (.t rfl) fun b4 => .h (.alloc ty32 fun b6 => .h (.alloc ty28 fun b7 => .p (.assign (.i rfl) ?_)))))
  refine .nil ?_
  refine .seq ?_
  refine .seq ?_
  refine .frzOb hC (.s (.s .z)) ?_
  refine .asP 4 rfl (.s (.s .z)) ?_
  refine .region rfl ?_
  refine .p (.move (.t rfl) (.p (.len Tryd.underlying23 (.t rfl) (.p (.gtr (.t rfl) (.i rfl) ?_)))))
  refine .nil ?_
  refine .condP (.t rfl) (fun hc14 => ?_) (fun hc14 => ?_)
  · refine .seq ?_
    refine .region rfl ?_
    refine .p (.bS0 (α := G_api_Algebra) rfl ty32 fo32 (.p (.buildA (default : (Arr 32 UInt8)) ty28 ar28 .nil rfl (.n (.stW ty32 (.t rfl) (.t rfl) (.s .z) (.n (.stW ty28 (.t rfl) (.t rfl) .z (.p (.assign (.i rfl) ?_)))))))))
    refine .nil ?_
    refine .ret ?_
    refine ⟨_, .r3 rfl (.cell ty32 rfl (.s .z)) (.cell ty28 rfl .z) (.tmp rfl), ?_⟩
    rw [algMac_long (a := a) (k := k) (m := m) (by omega)]
  · refine .skip ?_
    refine .seq ?_
    refine .seq ?_
    refine .region rfl ?_
    refine .p (.ldW ty32 (.t rfl) (.s (.s (.s .z))) (.p (.ldP ty28 (.t rfl) (.p (.move (.t rfl) (.p (.call1 hG (rEntry_c _ _ _) (.cons (.t rfl) (.cons (.t rfl) (.cons (.t rfl) .nil))) (.p (.move (.t rfl) (.p (.ext2_0 (.t rfl) ?_)))))))))))
    refine .p (.ext2_1 (.t rfl) (.h (.alloc ty28 fun b9 => .n (.stW ty28 (.t rfl) (.t rfl) .z (.p (.assign (.t rfl) ?_))))))
    refine .nil ?_
    refine .seq ?_
    refine .region rfl ?_
    refine .p (.move (.t rfl) ?_)
    refine .nil ?_
    refine .cond (.t rfl) (fun hc24 => ?_) (fun hc24 => ?_)
    · refine .seq ?_
      refine .drawCF [false, true, true, false, false] (by kernel_rfl) 5 [[], [], [(25, 0)], [(26, 1)], []] [2, 3] rfl (by kernel_rfl) rfl (by kernel_rfl) (by decide) ?_
      refine ⟨_, fun H => OpP.ldW ty32 (.t rfl) (Hole.app (.s (.s (.s (.s .z))))) rfl, ?_⟩
      refine ⟨_, fun H => OpP.ldW ty28 (.t rfl) (Hole.app .z) rfl, ?_⟩
      refine .inl ?_
      refine .inl ?_
      refine ⟨_, fun H => OpP.assign (.i rfl) rfl, ?_⟩
      refine ⟨⟨([], fun k => List.getD [(true, .none_), _, _, (true, .none_), (true, .none_)] k (true, .none_)), rfl⟩, ?_⟩
      refine OpH.stW ty32 (.t rfl) (.t rfl) (.s (.s .z)) ?_
      refine ⟨⟨([], fun k => List.getD [(true, .none_), _, _, (true, .none_), (true, .none_)] k (true, .none_)), rfl⟩, ?_⟩
      refine OpH.stW ty28 (.t rfl) (.t rfl) (.s .z) ?_
      refine ⟨⟨([], fun k => List.getD [(true, .none_), _, _, (true, .none_), (true, .none_)] k (true, .none_)), rfl⟩, ?_⟩
      show wpB _ _ _ _ _ _ ((8, _) :: (26, _) :: (25, _) :: _) _
      refine .nil ?_
      refine .ret ?_
      refine ⟨_, .r3 rfl (.cell ty32 rfl (.s (.s .z))) (.cell ty28 rfl (.s .z)) (.tmp rfl), ?_⟩
      rw [algMac_found (a := a) (k := k) (m := m) (by omega) hc24]
    · refine .skip ?_
      refine .seq ?_
      refine .seq ?_
      refine .region rfl ?_
      refine .p (.fldW G_api_Algebra.l3 fd32_3 rfl (.t rfl) (.p (.ldF (fun x => x.Macs) ty29 (.t rfl) (.s (.s (.s (.s .z)))) (fun _ => rfl) (.p (.len Tryd.underlying29 (.t rfl) (.p (.geq (.t rfl) (.i rfl) ?_)))))))
      refine .nil ?_
      refine .condP (.t rfl) (fun hc30 => ?_) (fun hc30 => ?_)
      · refine .seq ?_
        refine .region rfl ?_
        refine .p (.bS0 (α := G_api_Algebra) rfl ty32 fo32 (.p (.buildA (default : (Arr 32 UInt8)) ty28 ar28 .nil rfl (.n (.stW ty32 (.t rfl) (.t rfl) (.s (.s .z)) (.n (.stW ty28 (.t rfl) (.t rfl) (.s .z) (.p (.assign (.i rfl) ?_)))))))))
        refine .nil ?_
        refine .ret ?_
        refine ⟨_, .r3 rfl (.cell ty32 rfl (.s (.s .z))) (.cell ty28 rfl (.s .z)) (.tmp rfl), ?_⟩
        rw [algMac_full (a := a) (k := k) (m := m) (by omega) (entry_none hc24) (by omega)]
      · refine .skip ?_
        refine .seq ?_
        refine .region rfl ?_
        refine .p (.slArrP (by decide) ar28 (.t rfl) (.p (.move (.t rfl) (.p (.call1 hG (rHmac_c _ _ (by first | omega | (simp; done) | (simp; omega) | (simp at *; omega)) (by first | omega | (simp; done) | (simp; omega) | (simp at *; omega))) (.cons (.t rfl) (.cons (.t rfl) .nil)) (.h (.alloc ty28 fun b11 => .n (.stW ty28 (.t rfl) (.t rfl) .z ?_))))))))
        refine .nil ?_
        refine .seq ?_
        refine .seq ?_
        refine .region rfl ?_
        refine .p (.fldW G_api_Algebra.l0 fd32_0 rfl (.t rfl) (.p (.ldF (fun x => x.Free) ty4 (.t rfl) (.s (.s (.s (.s (.s .z))))) (fun _ => rfl) ?_)))
        refine .nil ?_
        refine .cond (.t rfl) (fun hc37 => ?_) (fun hc37 => ?_)
        · refine .region rfl ?_
          refine .p (.fldW G_api_Algebra.l3 fd32_3 rfl (.t rfl) (.p (.ldF (fun x => x.Macs) ty29 (.t rfl) (.s (.s (.s (.s (.s .z))))) (fun _ => rfl) (.p (.len Tryd.underlying29 (.t rfl) (.p (.add (.t rfl) (.i rfl) (by first | omega | (simp; done) | (simp; omega) | (simp at *; omega)) (by first | omega | (simp; done) | (simp; omega) | (simp at *; omega)) (.p (.call1 hG (rSymbol_c _ _) (.cons (.u8 109 rfl) (.cons (.t rfl) .nil)) (.n (.stW ty28 (.t rfl) (.t rfl) .z ?_)))))))))))
          refine .nil ?_
          refine .seq ?_
          refine .drawCF [false, false, false, false, false, false] (by kernel_rfl) 13 [[], [], [(44, 1)], [(43, 0), (45, 2)], [], [], [], [(48, 5), (49, 6)], [], [(47, 4), (50, 7), (51, 8)], [(52, 9)], [(46, 3), (53, 10)], []] [0, 3, 11] rfl (by kernel_rfl) rfl (by kernel_rfl) (by decide) ?_
          refine .inl ?_
          refine ⟨_, fun H => OpP.fldW G_api_Algebra.l3 fd32_3 rfl (.t rfl) rfl, ?_⟩
          refine ⟨_, fun H => OpP.ldF (fun x => x.Macs) ty29 (.t rfl) (Hole.app (.s (.s (.s (.s (.s .z)))))) (fun _ => rfl) rfl, ?_⟩
          refine .inl ?_
          refine ⟨_, fun H => OpP.ldP ty28 (.t rfl) rfl, ?_⟩
          refine ⟨_, fun H => OpP.buildSliceF (α := UInt8) ty5 Tryd.underlying23 .nil rfl (by decide) rfl, ?_⟩
          refine ⟨_, fun H => OpP.move (.t rfl) rfl, ?_⟩
          refine ⟨_, fun H => OpP.appendC st23 (.inl ⟨_, Tryd.underlying23⟩) (.t rfl) (.v (.t rfl)) (by first | omega | (simp; done) | (simp; omega) | (simp at *; omega)) (by first | omega | (simp; done) | (simp; omega) | (simp at *; omega)) rfl, ?_⟩
          refine ⟨_, fun H => OpP.ldW ty28 (.t rfl) (Hole.app .z) rfl, ?_⟩
          refine ⟨_, fun H => OpP.bS3 G_api_Mac.l0 G_api_Mac.l1 G_api_Mac.l2 rfl ty38 fo38 (fun c0 c1 c2 => (⟨c0, c1, c2⟩ : G_api_Mac)) (fun _ _ _ => rfl) rfl rfl rfl rfl (.t rfl) (.t rfl) (.t rfl) rfl, ?_⟩
          refine ⟨_, fun H => OpP.buildSliceF (α := G_api_Mac) ty38 Tryd.underlying29 (.cons (.t rfl) .nil) rfl (by decide) rfl, ?_⟩
          refine .inl ?_
          refine ⟨_, fun H => OpP.fldW G_api_Algebra.l3 fd32_3 rfl (.t rfl) rfl, ?_⟩
          refine ⟨⟨([], fun k => List.getD [(true, .none_), (true, .none_), (true, .none_), (true, .none_), (true, .none_), (true, .none_)] k (true, .none_)), rfl⟩, ?_⟩
          refine OpH.buildSlice (α := G_api_Mac) ty38 Tryd.underlying29 .nil rfl (by decide) fun b43 => ?_
          refine ⟨⟨([_], fun k => List.getD [(true, .none_), (true, .none_), (true, .none_), (true, .none_), (true, .none_), (true, .none_)] k (true, .none_)), rfl⟩, ?_⟩
          refine OpH.append st29 (.inl ⟨_, Tryd.underlying29⟩) rfl .z (.v (.t rfl)) (by first | omega | (simp; done) | (simp; omega) | (simp at *; omega)) (by first | omega | (simp; done) | (simp; omega) | (simp at *; omega)) (fun w46 => ?_) rfl
          refine ⟨⟨([_], fun k => List.getD [(true, .none_), (true, .none_), (true, .none_), (true, .none_), (true, .none_), (true, .none_)] k (true, .none_)), rfl⟩, ?_⟩
          refine OpH.append st29 (.inl ⟨_, Tryd.underlying29⟩) rfl .z (.v (.c rfl)) (by first | omega | (simp; done) | (simp; omega) | (simp at *; omega)) (by first | omega | (simp; done) | (simp; omega) | (simp at *; omega)) (fun w54 => ?_) rfl
          refine ⟨⟨([_], fun k => List.getD [(true, .none_), (true, .none_), (true, .none_), (true, .none_), (true, .none_), (true, .none_)] k (true, .none_)), rfl⟩, ?_⟩
          show wpB _ _ _ _ _ _ ((55, _) :: (54, _) :: (53, _) :: (52, _) :: (51, _) :: (50, _) :: (49, _) :: (48, _) :: (47, _) :: (46, _) :: (45, _) :: (44, _) :: (43, _) :: _) _
          refine .frzOwn hC .z ?_
          refine .as 54 rfl .z ?_
          refine .n (.stF (fun y x => { x with Macs := y }) ty29 (.t rfl) (.t rfl) (.s (.s (.s (.s (.s (.s .z)))))) (fun _ _ => rfl) ?_)
          refine .nil ?_
          refine .seq ?_
          refine .drawCF [false, false, false, true, true, false, false] (by kernel_rfl) 5 [[], [], [(56, 0)], [(57, 1)], []] [2, 3] rfl (by kernel_rfl) rfl (by kernel_rfl) (by decide) ?_
          refine ⟨_, fun H => OpP.ldW ty32 (.t rfl) (Hole.app (.s (.s (.s (.s (.s (.s .z))))))) rfl, ?_⟩
          refine ⟨_, fun H => OpP.ldW ty28 (.t rfl) (Hole.app (.s .z)) rfl, ?_⟩
          refine .inl ?_
          refine .inl ?_
          refine ⟨_, fun H => OpP.assign (.i rfl) rfl, ?_⟩
          refine ⟨⟨([], fun k => List.getD [(true, .none_), (true, .none_), (true, .none_), _, _, (true, .none_), (true, .none_)] k (true, .none_)), rfl⟩, ?_⟩
          refine OpH.stW ty32 (.t rfl) (.t rfl) (.s (.s (.s (.s .z)))) ?_
          refine ⟨⟨([], fun k => List.getD [(true, .none_), (true, .none_), (true, .none_), _, _, (true, .none_), (true, .none_)] k (true, .none_)), rfl⟩, ?_⟩
          refine OpH.stW ty28 (.t rfl) (.t rfl) (.s (.s (.s .z))) ?_
          refine ⟨⟨([], fun k => List.getD [(true, .none_), (true, .none_), (true, .none_), _, _, (true, .none_), (true, .none_)] k (true, .none_)), rfl⟩, ?_⟩
          show wpB _ _ _ _ _ _ ((8, _) :: (57, _) :: (56, _) :: _) _
          refine .nil ?_
          refine .ret ?_
          refine ⟨_, .r3 rfl (.cell ty32 rfl (.s (.s (.s (.s .z))))) (.cell ty28 rfl (.s (.s (.s .z)))) (.tmp rfl), ?_⟩
          rw [algMac_new (a := a) (k := k) (m := m) (by omega) (entry_none hc24) (by omega), newTag_free hc37]; rfl
        · refine .skip ?_
          refine .seq ?_
          refine .drawCF [false, false, false, false, false, false] (by kernel_rfl) 13 [[], [], [(44, 1)], [(43, 0), (45, 2)], [], [], [], [(48, 5), (49, 6)], [], [(47, 4), (50, 7), (51, 8)], [(52, 9)], [(46, 3), (53, 10)], []] [0, 3, 11] rfl (by kernel_rfl) rfl (by kernel_rfl) (by decide) ?_
          refine .inl ?_
          refine ⟨_, fun H => OpP.fldW G_api_Algebra.l3 fd32_3 rfl (.t rfl) rfl, ?_⟩
          refine ⟨_, fun H => OpP.ldF (fun x => x.Macs) ty29 (.t rfl) (Hole.app (.s (.s (.s (.s (.s .z)))))) (fun _ => rfl) rfl, ?_⟩
          refine .inl ?_
          refine ⟨_, fun H => OpP.ldP ty28 (.t rfl) rfl, ?_⟩
          refine ⟨_, fun H => OpP.buildSliceF (α := UInt8) ty5 Tryd.underlying23 .nil rfl (by decide) rfl, ?_⟩
          refine ⟨_, fun H => OpP.move (.t rfl) rfl, ?_⟩
          refine ⟨_, fun H => OpP.appendC st23 (.inl ⟨_, Tryd.underlying23⟩) (.t rfl) (.v (.t rfl)) (by first | omega | (simp; done) | (simp; omega) | (simp at *; omega)) (by first | omega | (simp; done) | (simp; omega) | (simp at *; omega)) rfl, ?_⟩
          refine ⟨_, fun H => OpP.ldW ty28 (.t rfl) (Hole.app .z) rfl, ?_⟩
          refine ⟨_, fun H => OpP.bS3 G_api_Mac.l0 G_api_Mac.l1 G_api_Mac.l2 rfl ty38 fo38 (fun c0 c1 c2 => (⟨c0, c1, c2⟩ : G_api_Mac)) (fun _ _ _ => rfl) rfl rfl rfl rfl (.t rfl) (.t rfl) (.t rfl) rfl, ?_⟩
          refine ⟨_, fun H => OpP.buildSliceF (α := G_api_Mac) ty38 Tryd.underlying29 (.cons (.t rfl) .nil) rfl (by decide) rfl, ?_⟩
          refine .inl ?_
          refine ⟨_, fun H => OpP.fldW G_api_Algebra.l3 fd32_3 rfl (.t rfl) rfl, ?_⟩
          refine ⟨⟨([], fun k => List.getD [(true, .none_), (true, .none_), (true, .none_), (true, .none_), (true, .none_), (true, .none_)] k (true, .none_)), rfl⟩, ?_⟩
          refine OpH.buildSlice (α := G_api_Mac) ty38 Tryd.underlying29 .nil rfl (by decide) fun b43 => ?_
          refine ⟨⟨([_], fun k => List.getD [(true, .none_), (true, .none_), (true, .none_), (true, .none_), (true, .none_), (true, .none_)] k (true, .none_)), rfl⟩, ?_⟩
          refine OpH.append st29 (.inl ⟨_, Tryd.underlying29⟩) rfl .z (.v (.t rfl)) (by first | omega | (simp; done) | (simp; omega) | (simp at *; omega)) (by first | omega | (simp; done) | (simp; omega) | (simp at *; omega)) (fun w46 => ?_) rfl
          refine ⟨⟨([_], fun k => List.getD [(true, .none_), (true, .none_), (true, .none_), (true, .none_), (true, .none_), (true, .none_)] k (true, .none_)), rfl⟩, ?_⟩
          refine OpH.append st29 (.inl ⟨_, Tryd.underlying29⟩) rfl .z (.v (.c rfl)) (by first | omega | (simp; done) | (simp; omega) | (simp at *; omega)) (by first | omega | (simp; done) | (simp; omega) | (simp at *; omega)) (fun w54 => ?_) rfl
          refine ⟨⟨([_], fun k => List.getD [(true, .none_), (true, .none_), (true, .none_), (true, .none_), (true, .none_), (true, .none_)] k (true, .none_)), rfl⟩, ?_⟩
          show wpB _ _ _ _ _ _ ((55, _) :: (54, _) :: (53, _) :: (52, _) :: (51, _) :: (50, _) :: (49, _) :: (48, _) :: (47, _) :: (46, _) :: (45, _) :: (44, _) :: (43, _) :: _) _
          refine .frzOwn hC .z ?_
          refine .as 54 rfl .z ?_
          refine .n (.stF (fun y x => { x with Macs := y }) ty29 (.t rfl) (.t rfl) (.s (.s (.s (.s (.s (.s .z)))))) (fun _ _ => rfl) ?_)
          refine .nil ?_
          refine .seq ?_
          refine .drawCF [false, false, false, true, true, false, false] (by kernel_rfl) 5 [[], [], [(56, 0)], [(57, 1)], []] [2, 3] rfl (by kernel_rfl) rfl (by kernel_rfl) (by decide) ?_
          refine ⟨_, fun H => OpP.ldW ty32 (.t rfl) (Hole.app (.s (.s (.s (.s (.s (.s .z))))))) rfl, ?_⟩
          refine ⟨_, fun H => OpP.ldW ty28 (.t rfl) (Hole.app (.s .z)) rfl, ?_⟩
          refine .inl ?_
          refine .inl ?_
          refine ⟨_, fun H => OpP.assign (.i rfl) rfl, ?_⟩
          refine ⟨⟨([], fun k => List.getD [(true, .none_), (true, .none_), (true, .none_), _, _, (true, .none_), (true, .none_)] k (true, .none_)), rfl⟩, ?_⟩
          refine OpH.stW ty32 (.t rfl) (.t rfl) (.s (.s (.s (.s .z)))) ?_
          refine ⟨⟨([], fun k => List.getD [(true, .none_), (true, .none_), (true, .none_), _, _, (true, .none_), (true, .none_)] k (true, .none_)), rfl⟩, ?_⟩
          refine OpH.stW ty28 (.t rfl) (.t rfl) (.s (.s (.s .z))) ?_
          refine ⟨⟨([], fun k => List.getD [(true, .none_), (true, .none_), (true, .none_), _, _, (true, .none_), (true, .none_)] k (true, .none_)), rfl⟩, ?_⟩
          show wpB _ _ _ _ _ _ ((8, _) :: (57, _) :: (56, _) :: _) _
          refine .nil ?_
          refine .ret ?_
          refine ⟨_, .r3 rfl (.cell ty32 rfl (.s (.s (.s (.s .z))))) (.cell ty28 rfl (.s (.s (.s .z)))) (.tmp rfl), ?_⟩
          rw [algMac_new (a := a) (k := k) (m := m) (by omega) (entry_none hc24) (by omega), newTag_real hc37]; rfl
end Go.Proofs.YtiekhjbhlekaeaaDoor
