/- Walks of hmac.Derive and of the deck of numbers. -/
import Derived.Test.YtiekhjbhlekaeaaDoorHm
set_option maxRecDepth 1000000
set_option linter.unusedVariables false
set_option linter.unusedSimpArgs false
namespace Go.Proofs.YtiekhjbhlekaeaaDoor
open Go.Fl Go.Ab Go.Mac Go.Sha
theorem ofInt_shr (n : Int) (h0 : 0 ≤ n) (h1 : n < 9223372036854775808) (k : Nat) (hk : k < 64) : UInt8.ofInt (n >>> k) = (UInt64.ofInt n >>> UInt64.ofNat k).toUInt8 := by
  obtain ⟨m, rfl⟩ := Int.eq_ofNat_of_zero_le h0
  rw [show ((m : Int) >>> k) = ((m >>> k : Nat) : Int) from rfl]
  apply UInt8.toNat_inj.1
  have e1 : (UInt64.ofInt (m : Int)).toNat = m % 2 ^ 64 := by
    simp [UInt64.ofInt]; omega
  have e2 : (UInt64.ofNat k).toNat = k := by simp; omega
  have e3 : (UInt8.ofInt ((m >>> k : Nat) : Int)).toNat = (m >>> k) % 256 := by
    generalize m >>> k = q
    simp [UInt8.ofInt]; omega
  rw [e3, UInt64.toNat_toUInt8, UInt64.toNat_shiftRight, e1, e2]
  rw [Nat.mod_eq_of_lt hk, Nat.mod_eq_of_lt (show m < 2 ^ 64 by omega)]
attribute [local simp] be64_length
def derive (key : Tag) (name : Str) (n : Int) : Tag × Int :=
  if isLabel name = false then (default, 7) else if n < 0 ∨ 281474976710656 < n then (default, 1) else (hmac key.l (name.l ++ [0] ++ be64 (UInt64.ofInt n) 8), 0)
theorem Derive_c (key : Tag) (name : Str) (n : Int) (hs : name.l.length ≤ 1000) : FunA gl Tryd.prog 93 [.v key, .v name, .v n] (fun r => r = .t2 (.v (derive key name n).1) (.v (derive key name n).2)) := by
  refine FunA.intro Tryd.func93 rfl (by kernel_rfl) 39 rfl rfl _ rfl fun C hC hG => ?_
  refine .seq ?_
  refine .region rfl ?_
  refine .h (.box (.t rfl) fun b3 => .h (.alloc ty28 fun b6 => .p (.assign (.i rfl) ?_)))
  refine .nil ?_
  refine .seq ?_
  refine .seq ?_
  refine .region rfl ?_
  refine .p (.move (.t rfl) (.p (.call1 hG (label_c _) (.cons (.t rfl) .nil) (.p (.not (.t rfl) ?_)))))
  refine .nil ?_
  refine .cond (.t rfl) (fun hc12 => ?_) (fun hc12 => ?_)
  · refine .seq ?_
    refine .region rfl ?_
    refine .p (.buildA (default : (Arr 32 UInt8)) ty28 ar28 .nil rfl (.n (.stW ty28 (.t rfl) (.t rfl) .z (.p (.assign (.i rfl) ?_)))))
    refine .nil ?_
    refine .ret ?_
    refine ⟨_, .r2 rfl (.cell ty28 rfl .z) (.tmp rfl), ?_⟩
    have e : derive key name n = (default, 7) := by unfold derive; rw [if_pos (by simpa using hc12)]
    rw [e]
  · refine .skip ?_
    refine .seq ?_
    refine .seq ?_
    refine .region rfl ?_
    refine .p (.move (.t rfl) (.p (.lss (.t rfl) (.i rfl) (.p (.move (.t rfl) ?_)))))
    refine .go 16 rfl (.t rfl) (fun hg17 => .move (.t rfl) rfl) ?_
    refine .go 16 rfl (.t rfl) (fun hg18 => .gtr (.o rfl (beq_iff_eq.2 hg18)) (.i rfl) rfl) ?_
    refine .p (.pickOr (.t rfl) (fun hp => (.o rfl (beq_iff_eq.2 hp))) ?_)
    refine .nil ?_
    refine .cond (.t rfl) (fun hc19 => ?_) (fun hc19 => ?_)
    · refine .seq ?_
      refine .region rfl ?_
      refine .p (.buildA (default : (Arr 32 UInt8)) ty28 ar28 .nil rfl (.n (.stW ty28 (.t rfl) (.t rfl) .z (.p (.assign (.i rfl) ?_)))))
      refine .nil ?_
      refine .ret ?_
      refine ⟨_, .r2 rfl (.cell ty28 rfl .z) (.tmp rfl), ?_⟩
      have e : derive key name n = (default, 1) := by unfold derive; rw [if_neg (by simpa using hc12), if_pos (by simpa using hc19)]
      rw [e]
    · refine .skip ?_
      refine .seq ?_
      refine .region rfl ?_
      refine .p (.move (.t rfl) (.h (.strBytes Tryd.underlying9 Tryd.underlying23 Tryd.underlying5 (.t rfl) fun w22 => .h (.buildSlice (α := UInt8) ty5 Tryd.underlying23 (.cons (.u8 0 rfl) .nil) rfl (by decide) fun b23 => .h (.append st23 (.inl ⟨_, Tryd.underlying23⟩) rfl (.s .z) (.own rfl .z) (by first | omega | (simp; done) | (simp; omega) | (simp at *; omega)) (by first | omega | (simp; done) | (simp; omega) | (simp at *; omega)) (fun w24 => .p (.assign (.t rfl) ?_)) rfl)))))
      refine .drop ?_
      refine .nil ?_
      refine .seq ?_
      refine .seq ?_
      have hn : ¬ n < 0 ∧ ¬ 281474976710656 < n := by simpa using hc19
      have hn0 : 0 ≤ n := by omega
      have hn1 : n < 9223372036854775808 := by omega
      refine .region rfl ?_
      refine .p (.assign (.i rfl) ?_)
      refine .nil ?_
      refine .block ?_
      refine .loopR (α := Nat × Value) [(2, _), (3, _), (6, _)] (fun x R => (8, .raw x.2) :: (9, .v (56 - 8 * (x.1 : Int))) :: R) (fun x => [(true, .own 5 x.2 (name.l ++ [0] ++ be64 (UInt64.ofInt n) x.1)), (true, .ob (ptr b6 0) (default : Tag)), (true, .ob (ptr b3 0) key)]) (fun x => x.1 ≤ 8) (fun x => 8 - x.1) ((0, w24)) (.cons rfl (.cons rfl (.cons rfl (.nil _)))) ?_ (.cons rfl (.cons rfl (.cons rfl (.cons rfl (.cons rfl (.nil _)))))) (congrArg (fun q => [(true, Blk.own _ _ q), _, _]) (by simp [be64])) fun x hF => ?_
      · simp
      obtain ⟨j, w⟩ := x
      dsimp only at hF ⊢
      refine .seq ?_
      refine .seq ?_
      refine .region rfl ?_
      refine .p (.move (.t rfl) (.p (.geq (.t rfl) (.i rfl) ?_)))
      refine .nil ?_
      refine .condP (.t rfl) (fun hc26 => ?_) (fun hc26 => ?_)
      · refine .skip ?_
        refine .seq ?_
        refine .block ?_
        refine .region rfl ?_
        refine .p (.move (.t rfl) (.p (.move (.t rfl) (.p (.move (.t rfl) (.p (.shrI (.t rfl) (.t rfl) (by first | omega | (simp; done) | (simp; omega) | (simp at *; omega)) (by first | omega | (simp; done) | (simp; omega) | (simp at *; omega)) (.p (.conv8 Tryd.underlying3 Tryd.underlying5 (.t rfl) (.h (.buildSlice (α := UInt8) ty5 Tryd.underlying23 (.cons (.t rfl) .nil) rfl (by decide) fun b34 => ?_)))))))))))
        refine .h (.append st23 (.inl ⟨_, Tryd.underlying23⟩) rfl (.s .z) (.own rfl .z) (by first | omega | (simp; done) | (simp; omega) | (simp at *; omega)) (by first | omega | (simp; done) | (simp; omega) | (simp at *; omega)) (fun w35 => .p (.assign (.t rfl) ?_)) rfl)
        refine .drop ?_
        refine .nil ?_
        refine .region rfl ?_
        refine .p (.move (.t rfl) (.p (.sub (.t rfl) (.i rfl) (by first | omega | (simp; done) | (simp; omega) | (simp at *; omega)) (by first | omega | (simp; done) | (simp; omega) | (simp at *; omega)) (.p (.assign (.t rfl) ?_)))))
        refine .nil ?_
        refine ⟨(j + 1, w35), .cons rfl (.cons (congrArg (fun q => some (AV.v q)) (by dsimp only; omega)) (.cons rfl (.cons rfl (.cons rfl (.nil _))))), congrArg (fun q => [(true, Blk.own _ _ q), _, _]) (by dsimp only; rw [be64_succ, ← ofInt_shr n hn0 hn1 _ (by omega), show (56 - 8 * (j : Int)).toNat = 56 - 8 * j by omega]; simp), ?_, by dsimp only; omega⟩
        dsimp only; omega
      · refine .exit ?_
        refine .seq ?_
        refine .frzOwn hC .z ?_
        refine .as 8 rfl .z ?_
        refine .frzOb hC (.s (.s .z)) ?_
        refine .asP 3 rfl (.s (.s .z)) ?_
        refine .region rfl ?_
        refine .p (.slArrP (by decide) ar28 (.t rfl) (.p (.move (.t rfl) (.p (.call1 hG (hmacOf_c _ _ (by first | omega | (simp; done) | (simp; omega) | (simp at *; omega)) (by first | omega | (simp; done) | (simp; omega) | (simp at *; omega))) (.cons (.t rfl) (.cons (.t rfl) .nil)) (.n (.stW ty28 (.t rfl) (.t rfl) (.s .z) (.p (.assign (.i rfl) ?_)))))))))
        refine .nil ?_
        refine .ret ?_
        refine ⟨_, .r2 rfl (.cell ty28 rfl (.s .z)) (.tmp rfl), ?_⟩
        obtain rfl : j = 8 := by omega
        have e : derive key name n = (hmac key.l (name.l ++ [0] ++ be64 (UInt64.ofInt n) 8), 0) := by unfold derive; rw [if_neg (by simpa using hc12), if_neg (by simpa using hc19)]
        rw [e]
theorem rDerive_c (key : Tag) (name : Str) (n : Int) (hs : name.l.length ≤ 1000) : FunA gl Tryd.prog 61 [.v key, .v name, .v n] (fun r => r = .t2 (.v (derive key name n).1) (.v (derive key name n).2)) := by
  refine FunA.intro Tryd.func61 rfl (by kernel_rfl) 29 rfl rfl _ rfl fun C hC hG => ?_
  refine .seq ?_
  refine .region rfl ?_
  refine .h (.box (.t rfl) fun b3 => .h (.alloc ty28 fun b6 => .p (.assign (.i rfl) ?_)))
  refine .nil ?_
  refine .seq ?_
  refine .seq ?_
  refine .region rfl ?_
  refine .p (.move (.t rfl) (.p (.call1 hG (Name_c _) (.cons (.t rfl) .nil) (.p (.not (.t rfl) ?_)))))
  refine .nil ?_
  refine .cond (.t rfl) (fun hc10 => ?_) (fun hc10 => ?_)
  · refine .seq ?_
    refine .region rfl ?_
    refine .p (.buildA (default : (Arr 32 UInt8)) ty28 ar28 .nil rfl (.n (.stW ty28 (.t rfl) (.t rfl) .z (.p (.assign (.i rfl) ?_)))))
    refine .nil ?_
    refine .ret ?_
    refine ⟨_, .r2 rfl (.cell ty28 rfl .z) (.tmp rfl), ?_⟩
    have e : derive key name n = (default, 7) := by unfold derive; rw [if_pos (by simpa using hc10)]
    rw [e]
  · refine .skip ?_
    refine .seq ?_
    refine .seq ?_
    refine .region rfl ?_
    refine .p (.move (.t rfl) (.p (.lss (.t rfl) (.i rfl) (.p (.move (.t rfl) ?_)))))
    refine .go 14 rfl (.t rfl) (fun hg15 => .move (.t rfl) rfl) ?_
    refine .go 14 rfl (.t rfl) (fun hg16 => .gtr (.o rfl (beq_iff_eq.2 hg16)) (.i rfl) rfl) ?_
    refine .p (.pickOr (.t rfl) (fun hp => (.o rfl (beq_iff_eq.2 hp))) ?_)
    refine .nil ?_
    refine .cond (.t rfl) (fun hc17 => ?_) (fun hc17 => ?_)
    · refine .seq ?_
      refine .region rfl ?_
      refine .p (.buildA (default : (Arr 32 UInt8)) ty28 ar28 .nil rfl (.n (.stW ty28 (.t rfl) (.t rfl) .z (.p (.assign (.i rfl) ?_)))))
      refine .nil ?_
      refine .ret ?_
      refine ⟨_, .r2 rfl (.cell ty28 rfl .z) (.tmp rfl), ?_⟩
      have e : derive key name n = (default, 1) := by unfold derive; rw [if_neg (by simpa using hc10), if_pos (by simpa using hc17)]
      rw [e]
    · refine .skip ?_
      refine .seq ?_
      refine .frzOb hC (.s .z) ?_
      refine .asP 3 rfl (.s .z) ?_
      refine .drawC (by kernel_rfl) 10 [[], [], [(20, 1)], [], [(21, 2), (22, 3)], [], [(24, 5)], [(25, 6)], [(23, 4), (26, 7)], [(19, 0), (27, 8)]] [2, 4, 8, 9] rfl (by kernel_rfl) rfl (by kernel_rfl) (by decide) ?_
      refine ⟨_, fun H => OpP.slArrP (by decide) ar28 (.t rfl) rfl, ?_⟩
      refine ⟨_, fun H => OpP.move (.t rfl) rfl, ?_⟩
      refine .inl ?_
      refine ⟨_, fun H => OpP.buildSliceF (α := UInt8) ty5 Tryd.underlying23 (.cons (.u8 0 rfl) .nil) rfl (by decide) rfl, ?_⟩
      refine .inl ?_
      refine ⟨_, fun H => OpP.move (.t rfl) rfl, ?_⟩
      refine ⟨_, fun H => OpP.conv64 Tryd.underlying3 Tryd.underlying90 (.t rfl) rfl, ?_⟩
      refine ⟨_, fun H => OpP.call1 hG (Eight_c _) (.cons (.t rfl) .nil) rfl, ?_⟩
      refine .inl ?_
      refine .inl ?_
      refine OpH.strBytes Tryd.underlying9 Tryd.underlying23 Tryd.underlying5 (.t rfl) fun w21 => ?_
      refine OpH.append st23 (.inl ⟨_, Tryd.underlying23⟩) rfl .z (.v (.c rfl)) (by first | omega | (simp; done) | (simp; omega) | (simp at *; omega)) (by first | omega | (simp; done) | (simp; omega) | (simp at *; omega)) (fun w23 => ?_) rfl
      refine OpH.append st23 (.inl ⟨_, Tryd.underlying23⟩) rfl .z (.v (.t rfl)) (by first | omega | (simp; done) | (simp; omega) | (simp at *; omega)) (by first | omega | (simp; done) | (simp; omega) | (simp at *; omega)) (fun w27 => ?_) rfl
      refine OpH.frzOwn hC .z (OpH.as 27 rfl .z (OpH.ofP (OpP.call1 hG (rHmac_c _ _ (by first | omega | (simp; done) | (simp; omega) | (simp at *; omega)) (by first | omega | (simp; done) | (simp; omega) | (simp at *; omega))) (.cons (.t rfl) (.cons (.t rfl) .nil)) ?_)))
      show wpB _ _ _ _ _ _ ((28, _) :: (27, _) :: (26, _) :: (25, _) :: (24, _) :: (23, _) :: (22, _) :: (21, _) :: (20, _) :: (19, _) :: _) _
      refine .n (.stW ty28 (.t rfl) (.t rfl) (.s .z) (.p (.assign (.i rfl) ?_)))
      refine .nil ?_
      refine .ret ?_
      refine ⟨_, .r2 rfl (.cell ty28 rfl (.s .z)) (.tmp rfl), ?_⟩
      have e : derive key name n = (hmac key.l (name.l ++ [0] ++ be64 (UInt64.ofInt n) 8), 0) := by unfold derive; rw [if_neg (by simpa using hc10), if_neg (by simpa using hc17)]
      rw [e]
/-- A pointer to a deck. -/
abbrev dk (w : Value) : AV := .ln w (Lens.id (α := G_macaroonmade_Deck))
theorem deckNew_c (l : List Int) : FunH gl Tryd.prog 17 [.v l] [] (fun r Hs => ∃ b, r = dk (ptr b 0) ∧ Hs = [.ob (ptr b 0) (⟨l, 0⟩ : G_macaroonmade_Deck)]) := by
  refine FunH.intro Tryd.func17 rfl (by kernel_rfl) 6 rfl rfl _ rfl _ rfl fun C hC hG => ?_
  refine .seq ?_
  refine .region rfl ?_
  refine .p (.assign .raw ?_)
  refine .nil ?_
  refine .seq ?_
  refine .region rfl ?_
  refine .p (.move (.t rfl) (.p (.bS1 G_macaroonmade_Deck.l0 rfl ty79 fo79 (fun c0 => (⟨c0, 0⟩ : G_macaroonmade_Deck)) (fun _ => rfl) rfl rfl (.t rfl) (.h (.box (.t rfl) fun b5 => .p (.assign (.t rfl) ?_))))))
  refine .nil ?_
  refine .ret ?_
  refine ⟨_, .r1 rfl (.tmp rfl), ?_⟩
  exact ⟨b5, rfl, rfl⟩
def deckNext (d : G_macaroonmade_Deck) (n : Int) : Int × G_macaroonmade_Deck :=
  if h : d.At.toNat < d.L.length then (d.L[d.At.toNat] % n, ⟨d.L, d.At + 1⟩) else (0, d)
def DeckOk (d : G_macaroonmade_Deck) : Prop := 0 ≤ d.At
theorem deckNext_ok {d : G_macaroonmade_Deck} {n : Int} (h : DeckOk d) : DeckOk (deckNext d n).2 := by
  unfold deckNext; split
  · show 0 ≤ d.At + 1
    unfold DeckOk at h; omega
  · exact h
theorem deckNext_le {d : G_macaroonmade_Deck} {n : Int} (h : 0 < n) : 0 ≤ (deckNext d n).1 ∧ (deckNext d n).1 < n := by
  unfold deckNext; split
  · exact ⟨Int.emod_nonneg _ (by omega), Int.emod_lt_of_pos _ h⟩
  · exact ⟨Int.le_refl 0, h⟩
theorem Next_c (w : Value) (d : G_macaroonmade_Deck) (n : Int) (hd : DeckOk d) (h0 : 0 < n) (h1 : n ≤ 4611686018427387904) :
    FunH gl Tryd.prog 33 [dk w, .v n] [.ob w d] (fun r Hs => r = .v (deckNext d n).1 ∧ Hs = [.ob w (deckNext d n).2]) := by
  unfold DeckOk at hd
  refine FunH.intro Tryd.func33 rfl (by kernel_rfl) 35 rfl rfl _ rfl _ rfl fun C hC hG => ?_
  refine .seq ?_
  refine .region rfl ?_
  refine .p (.assign (.i rfl) ?_)
  refine .nil ?_
  refine .seq ?_
  refine .seq ?_
  refine .draw (by kernel_rfl) 10 [[], [(5, 0)], [(6, 1)], [(7, 2)], [], [(9, 4)], [(10, 5)], [(11, 6)], [(12, 7)], [(8, 3), (13, 8)]] rfl (by kernel_rfl) rfl ?_
  refine ⟨_, OpP.move (.t rfl) rfl, ?_⟩
  refine ⟨_, OpP.nilCheckL (.t rfl) rfl, ?_⟩
  refine ⟨_, OpP.fldW G_macaroonmade_Deck.l1 fd79_1 rfl (.t rfl) rfl, ?_⟩
  refine ⟨_, OpP.ldF (fun x => x.At) ty3 (.t rfl) .z (fun _ => rfl) rfl, ?_⟩
  refine ⟨_, OpP.move (.t rfl) rfl, ?_⟩
  refine ⟨_, OpP.nilCheckL (.t rfl) rfl, ?_⟩
  refine ⟨_, OpP.fldW G_macaroonmade_Deck.l0 fd79_0 rfl (.t rfl) rfl, ?_⟩
  refine ⟨_, OpP.ldF (fun x => x.L) ty22 (.t rfl) .z (fun _ => rfl) rfl, ?_⟩
  refine ⟨_, OpP.len Tryd.underlying22 (.t rfl) rfl, ?_⟩
  refine ⟨_, OpP.geq (.t rfl) (.t rfl) rfl, ?_⟩
  show wpB _ _ _ _ _ _ ((14, _) :: (13, _) :: (12, _) :: (11, _) :: (10, _) :: (9, _) :: (8, _) :: (7, _) :: (6, _) :: (5, _) :: _) _
  refine .nil ?_
  refine .condP (.t rfl) (fun hc14 => ?_) (fun hc14 => ?_)
  · refine .seq ?_
    refine .region rfl ?_
    refine .p (.assign (.i rfl) ?_)
    refine .nil ?_
    refine .ret ?_
    refine ⟨_, .r1 rfl (.tmp rfl), ?_⟩
    have e : deckNext d n = (0, d) := by unfold deckNext; rw [dif_neg (by omega)]
    rw [e]; exact ⟨rfl, rfl⟩
  · refine .skip ?_
    refine .seq ?_
    refine .lenLe 12 rfl fun hl => ?_
    refine .region rfl ?_
    refine .p (.move (.t rfl) (.p (.nilCheckL (.t rfl) (.p (.fldW G_macaroonmade_Deck.l1 fd79_1 rfl (.t rfl) (.p (.ldF (fun x => x.At) ty3 (.t rfl) .z (fun _ => rfl) (.p (.add (.t rfl) (.i rfl) (by first | omega | (simp; done) | (simp; omega) | (simp at *; omega)) (by first | omega | (simp; done) | (simp; omega) | (simp at *; omega)) (.p (.nilCheckL (.t rfl) ?_)))))))))))
    refine .p (.fldW G_macaroonmade_Deck.l1 fd79_1 rfl (.t rfl) (.n (.stF (fun y x => { x with At := y }) ty3 (.t rfl) (.t rfl) .z (fun _ _ => rfl) ?_)))
    refine .nil ?_
    refine .seq ?_
    refine .draw (by kernel_rfl) 14 [[], [(22, 0)], [(23, 1)], [(24, 2)], [], [(26, 4)], [(27, 5)], [(28, 6)], [(29, 7)], [(25, 3), (30, 8)], [(31, 9)], [], [(32, 10), (33, 11)], [(34, 12)]] rfl (by kernel_rfl) rfl ?_
    refine ⟨_, OpP.move (.t rfl) rfl, ?_⟩
    refine ⟨_, OpP.nilCheckL (.t rfl) rfl, ?_⟩
    refine ⟨_, OpP.fldW G_macaroonmade_Deck.l0 fd79_0 rfl (.t rfl) rfl, ?_⟩
    refine ⟨_, OpP.ldF (fun x => x.L) ty22 (.t rfl) .z (fun _ => rfl) rfl, ?_⟩
    refine ⟨_, OpP.move (.t rfl) rfl, ?_⟩
    refine ⟨_, OpP.nilCheckL (.t rfl) rfl, ?_⟩
    refine ⟨_, OpP.fldW G_macaroonmade_Deck.l1 fd79_1 rfl (.t rfl) rfl, ?_⟩
    refine ⟨_, OpP.ldF (fun x => x.At) ty3 (.t rfl) .z (fun _ => rfl) rfl, ?_⟩
    refine ⟨_, OpP.sub (.t rfl) (.i rfl) (by first | omega | (simp; done) | (simp; omega) | (simp at *; omega)) (by first | omega | (simp; done) | (simp; omega) | (simp at *; omega)) rfl, ?_⟩
    refine ⟨_, OpP.idx ty3 Tryd.underlying22 (.t rfl) (.t rfl) (by first | omega | (simp; done) | (simp; omega) | (simp at *; omega)) (by first | omega | (simp; done) | (simp; omega) | (simp at *; omega)) rfl, ?_⟩
    refine ⟨_, OpP.ldP ty3 (.t rfl) rfl, ?_⟩
    refine ⟨_, OpP.move (.t rfl) rfl, ?_⟩
    refine ⟨_, OpP.call1 hG (Within_c _ _ (by first | omega | (simp; done) | (simp; omega) | (simp at *; omega)) (by first | omega | (simp; done) | (simp; omega) | (simp at *; omega))) (.cons (.t rfl) (.cons (.t rfl) .nil)) rfl, ?_⟩
    refine ⟨_, OpP.assign (.t rfl) rfl, ?_⟩
    show wpB _ _ _ _ _ _ ((4, _) :: (34, _) :: (33, _) :: (32, _) :: (31, _) :: (30, _) :: (29, _) :: (28, _) :: (27, _) :: (26, _) :: (25, _) :: (24, _) :: (23, _) :: (22, _) :: _) _
    refine .nil ?_
    refine .ret ?_
    refine ⟨_, .r1 rfl (.tmp rfl), ?_⟩
    have e : deckNext d n = (d.L[d.At.toNat]'(by omega) % n, ⟨d.L, d.At + 1⟩) := by unfold deckNext; rw [dif_pos (by omega)]
    rw [e]; refine ⟨congrArg AV.v ?_, rfl⟩; simp only [Int.add_sub_cancel]
end Go.Proofs.YtiekhjbhlekaeaaDoor
