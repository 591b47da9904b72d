/- What is true of every algebra that was made; the deck's algebra. -/
import Derived.Test.YtiekhjbhlekaeaaDoorMa
set_option maxRecDepth 1000000
set_option linter.unusedVariables false
set_option linter.unusedSimpArgs false
namespace Go.Proofs.YtiekhjbhlekaeaaDoor
open Go.Fl Go.Ab Go.Mac Go.Sha
structure AlgOk (a : Alg) (n : Nat) : Prop where
  macs : a.Macs.length ≤ n
  boxes : a.Boxes.length ≤ n
  fresh0 : 0 ≤ a.Fresh
  fresh1 : a.Fresh ≤ n
  tag : ∀ i (h : i < a.Macs.length), a.Macs[i].Message.length ≤ 1000 ∧ a.Macs[i].Tag = (if a.Free then symTag 109 (i + 1 : Nat) else hmac a.Macs[i].Key.l a.Macs[i].Message)
  uniq : ∀ i (h : i < a.Macs.length), a.Macs.find? (macEq a.Macs[i].Key a.Macs[i].Message) = some a.Macs[i]
  box : ∀ i (h : i < a.Boxes.length), a.Boxes[i].Plain.length ≤ 256 ∧ 0 ≤ a.Boxes[i].Nonce ∧ a.Boxes[i].Nonce ≤ 281474976710656 ∧
    a.Boxes[i].Box = (if a.Free then (symTag 98 (i + 1 : Nat)).l ++ List.replicate (a.Boxes[i].Plain.length + 8) 0 else realBox a.Boxes[i].Key a.Boxes[i].Nonce a.Boxes[i].Plain)
theorem AlgOk.new (free : Bool) (seed : Tag) (n : Nat) : AlgOk ⟨free, seed, 0, [], []⟩ n :=
  ⟨Nat.zero_le _, Nat.zero_le _, Int.le_refl _, Int.natCast_nonneg _, fun i h => (by cases h), fun i h => (by cases h), fun i h => (by cases h)⟩
theorem AlgOk.le {a : Alg} {n m : Nat} (h : AlgOk a n) (hm : n ≤ m) : AlgOk a m :=
  ⟨Nat.le_trans h.macs hm, Nat.le_trans h.boxes hm, h.fresh0, by have := h.fresh1; omega, h.tag, h.uniq, h.box⟩
theorem AlgOk.key {a : Alg} {n : Nat} (h : AlgOk a n) (hn : n < 65536) : AlgOk (algKey a).1 (n + 1) := by
  have := h.fresh1
  have := h.fresh0
  unfold algKey
  rw [if_neg (by omega)]
  exact ⟨Nat.le_succ_of_le h.macs, Nat.le_succ_of_le h.boxes, by show 0 ≤ a.Fresh + 1; omega, by show a.Fresh + 1 ≤ ((n + 1 : Nat) : Int); omega, h.tag, h.uniq, h.box⟩
theorem macEq_self (x : G_api_Mac) : macEq x.Key x.Message x = true := by simp [macEq]
theorem macEq_iff (k : Tag) (m : List UInt8) (x : G_api_Mac) : macEq k m x = true ↔ x.Key = k ∧ x.Message = m := by simp [macEq]
theorem AlgOk.mac {a : Alg} {n : Nat} (h : AlgOk a n) (hn : n < 65536) {k : Tag} {m : List UInt8} (hm : m.length ≤ 1000) : AlgOk (algMac a k m).1 (n + 1) := by
  have h1 := h.macs
  cases hf : algFind a k m with
  | some x =>
    have e : algMac a k m = (a, x.Tag, 0) := by unfold algMac; rw [if_neg (by omega), hf]
    rw [e]; exact h.le (Nat.le_succ _)
  | none =>
    rw [algMac_new (by omega) hf (by omega)]
    have hnone : ∀ x ∈ a.Macs, macEq k m x = false := fun x hx => by
      have := List.find?_eq_none.1 hf x hx
      simpa using this
    refine ⟨by simp; exact h1, Nat.le_succ_of_le h.boxes, h.fresh0, by have := h.fresh1; show a.Fresh ≤ _; omega, fun i hi => ?_, fun i hi => ?_, h.box⟩
    · simp only [List.length_append, List.length_singleton] at hi
      by_cases e : i < a.Macs.length
      · simp only [List.getElem_append_left e]; exact h.tag i e
      · obtain rfl : i = a.Macs.length := by omega
        simp only [List.getElem_concat_length]
        refine ⟨hm, ?_⟩
        unfold newTag
        rw [show ((a.Macs.length + 1 : Nat) : Int) = (a.Macs.length : Int) + 1 by omega]
    · simp only [List.length_append, List.length_singleton] at hi
      by_cases e : i < a.Macs.length
      · simp only [List.getElem_append_left e]
        rw [List.find?_append, h.uniq i e]; rfl
      · obtain rfl : i = a.Macs.length := by omega
        simp only [List.getElem_concat_length]
        have : a.Macs.find? (macEq k m) = none := hf
        rw [List.find?_append, this]
        simp [macEq]
theorem AlgOk.boxed {a : Alg} {n : Nat} (h : AlgOk a n) (hn : n < 65536) {k : Tag} {c : Int} {p : List UInt8} (hc0 : 0 ≤ c) (hc1 : c ≤ 281474976710656) (hp : p.length ≤ 256) : AlgOk (algSeal a k c p).1 (n + 1) := by
  have h1 := h.boxes
  have hr : (decide (c < 0) || decide (281474976710656 < c)) = false := by simp; omega
  cases hf : a.Boxes.find? (sealEq k c p) with
  | some x => rw [algSeal_found hr (by omega) hf]; exact h.le (Nat.le_succ _)
  | none =>
    rw [algSeal_new hr (by omega) hf (by omega)]
    refine ⟨Nat.le_succ_of_le h.macs, by simp; exact h1, h.fresh0, by have := h.fresh1; show a.Fresh ≤ _; omega, h.tag, h.uniq, fun i hi => ?_⟩
    simp only [List.length_append, List.length_singleton] at hi
    by_cases e : i < a.Boxes.length
    · simp only [List.getElem_append_left e]; exact h.box i e
    · obtain rfl : i = a.Boxes.length := by omega
      simp only [List.getElem_concat_length]
      refine ⟨hp, hc0, hc1, ?_⟩
      unfold newBox
      rw [show ((a.Boxes.length + 1 : Nat) : Int) = (a.Boxes.length : Int) + 1 by omega]
theorem AlgOk.boxLe {a : Alg} {n : Nat} (h : AlgOk a n) : ∀ x ∈ a.Boxes, x.Box.length ≤ 1000000 := fun x hx => by
  obtain ⟨i, hi, rfl⟩ := List.getElem_of_mem hx
  obtain ⟨h1, _, _, h2⟩ := h.box i hi
  rw [h2]
  split
  · simp; omega
  · simp [realBox, sealHead, be64_length, streamL_length]; omega
theorem Next_e (w : Value) (d : G_macaroonmade_Deck) (n : Int) (hd : DeckOk d) (h0 : 0 < n) (h1 : n ≤ 4611686018427387904) :
    FunH gl Tryd.prog 33 [dk w, .v n] [.ob w d] (fun r Hs => ∃ v : Int, ∃ d', 0 ≤ v ∧ v < n ∧ DeckOk d' ∧ r = .v v ∧ Hs = [.ob w d']) :=
  (Next_c w d n hd h0 h1).mono fun r Hs ⟨h2, h3⟩ => ⟨_, _, (deckNext_le h0).1, (deckNext_le h0).2, deckNext_ok hd, h2, h3⟩
theorem Algebra_deck_c (w : Value) (d : G_macaroonmade_Deck) (hd : DeckOk d) : FunH gl Tryd.prog 18 [dk w] [.ob w d] (fun r Hs => ∃ a : Alg, ∃ d', AlgOk a 4 ∧ DeckOk d' ∧ r = .v a ∧ Hs = [.ob w d']) := by
  refine FunH.introS Tryd.func18 rfl (by kernel_rfl) 56 rfl rfl _ rfl _ rfl fun C hC hG => ?_
  refine .seq ?_
  refine .region rfl ?_
  refine .h (.alloc ty32 fun b2 => ?_)
  refine .nil ?_
  refine .seq ?_
  refine .region rfl ?_
  refine .p (.move (.t rfl) (.h (.callM hG (Next_e _ _ _ (by assumption) (by first | omega | (simp; done) | (simp; omega) | (simp at *; omega)) (by first | omega | (simp; done) | (simp; omega) | (simp at *; omega))) (.s .z) (.cons (.t rfl) (.cons (.i rfl) .nil)) (by rintro _ _ ⟨_, _, _, _, _, _, rfl⟩; exact ⟨_, rfl⟩) fun r6 B6 hr6 => ?_)))
  obtain ⟨v6, d6, h60, h61, hd6, rfl, hB⟩ := hr6
  cases hB
  refine .p (.eqlI (.t rfl) (.i rfl) (.p (.move (.t rfl) (.h (.callM hG (Tag_deck_c _ _ (by assumption)) (.s .z) (.cons (.t rfl) .nil) (by rintro _ _ ⟨_, _, _, _, rfl⟩; exact ⟨_, rfl⟩) fun r9 B9 hr9 => ?_)))))
  obtain ⟨t9, d9, hd9, rfl, hB⟩ := hr9
  cases hB
  refine .p (.call1 hG (rNew_c _ _) (.cons (.t rfl) (.cons (.t rfl) .nil)) (.h (.alloc ty32 fun b3 => .n (.stW ty32 (.t rfl) (.t rfl) .z ?_))))
  refine .nil ?_
  refine .seq ?_
  refine .seq ?_
  refine .region rfl ?_
  refine .p (.move (.t rfl) (.h (.callM hG (Next_e _ _ _ (by assumption) (by first | omega | (simp; done) | (simp; omega) | (simp at *; omega)) (by first | omega | (simp; done) | (simp; omega) | (simp at *; omega))) (.s (.s .z)) (.cons (.t rfl) (.cons (.i rfl) .nil)) (by rintro _ _ ⟨_, _, _, _, _, _, rfl⟩; exact ⟨_, rfl⟩) fun r12 B12 hr12 => ?_)))
  obtain ⟨v12, d12, h120, h121, hd12, rfl, hB⟩ := hr12
  cases hB
  refine .p (.assign (.t rfl) ?_)
  refine .nil ?_
  refine .block ?_
  refine .loopR (α := Nat × Alg × G_macaroonmade_Deck) [(0, _), (2, _), (3, _)] (fun x R => (4, .v (x.1 : Int)) :: R) (fun x => [(true, .ob (ptr b3 0) x.2.1), (true, .ob (ptr b2 0) (default : Alg)), (false, .ob w x.2.2)]) (fun x => x.1 ≤ 4 ∧ AlgOk x.2.1 (4 - x.1) ∧ DeckOk x.2.2) (fun x => x.1) ((v12.toNat, ⟨decide (v6 = 0), t9, 0, [], []⟩, d12)) (.cons rfl (.cons rfl (.cons rfl (.nil _)))) ?_ (.cons (congrArg (fun q => some (AV.v q)) (by dsimp only; omega)) (.cons rfl (.cons rfl (.cons rfl (.nil _))))) (rfl) fun x hF => ?_
  · exact ⟨by dsimp only; omega, AlgOk.new _ _ _, hd12⟩
  obtain ⟨k, a, e⟩ := x
  obtain ⟨hk, ha, he⟩ := hF
  dsimp only at hk ha he ⊢
  refine .seq ?_
  refine .seq ?_
  refine .region rfl ?_
  refine .p (.move (.t rfl) (.p (.gtr (.t rfl) (.i rfl) ?_)))
  refine .nil ?_
  refine .condP (.t rfl) (fun hc14 => ?_) (fun hc14 => ?_)
  · refine .skip ?_
    refine .seq ?_
    refine .block ?_
    refine .seq ?_
    refine .region rfl ?_
    refine .p (.move (.t rfl) (.h (.callM hG (Next_e _ _ _ (by assumption) (by first | omega | (simp; done) | (simp; omega) | (simp at *; omega)) (by first | omega | (simp; done) | (simp; omega) | (simp at *; omega))) (.s (.s .z)) (.cons (.t rfl) (.cons (.i rfl) .nil)) (by rintro _ _ ⟨_, _, _, _, _, _, rfl⟩; exact ⟨_, rfl⟩) fun r18 B18 hr18 => ?_)))
    obtain ⟨v18, d18, h180, h181, hd18, rfl, hB⟩ := hr18
    cases hB
    refine .nil ?_
    refine .block ?_
    refine .seq ?_
    refine .region rfl ?_
    refine .p (.eqlI (.t rfl) (.i rfl) (.p (.assign (.t rfl) ?_)))
    refine .nil ?_
    refine .condP (.t rfl) (fun hc19 => ?_) (fun hc19 => ?_)
    · refine .region rfl ?_
      refine .p (.ldW ty32 (.t rfl) .z (.p (.call1 hG (rKey_c _ ha.fresh0) (.cons (.t rfl) .nil) (.p (.move (.t rfl) (.p (.ext3_0 (.t rfl) (.p (.ext3_1 (.t rfl) (.p (.ext3_2 (.t rfl) ?_)))))))))))
      refine .n (.stW ty32 (.t rfl) (.t rfl) .z ?_)
      refine .nil ?_
      refine .region rfl ?_
      refine .p (.move (.t rfl) (.p (.sub (.t rfl) (.i rfl) (by first | omega | (simp; done) | (simp; omega) | (simp at *; omega)) (by first | omega | (simp; done) | (simp; omega) | (simp at *; omega)) (.p (.assign (.t rfl) ?_)))))
      refine .nil ?_
      refine ⟨(k - 1, _, _), .cons (congrArg (fun q => some (AV.v q)) (by dsimp only; omega)) (.cons rfl (.cons rfl (.cons rfl (.nil _)))), rfl, ?_, by dsimp only; omega⟩
      exact ⟨by dsimp only; omega, by dsimp only; first | exact (ha.key (by omega)).le (by omega) | exact (ha.mac (by omega) (by omega)).le (by omega) | exact (ha.boxed (by omega) (by omega) (by omega) (by omega)).le (by omega) | exact ha.le (by omega), by assumption⟩
    · refine .seq ?_
      refine .region rfl ?_
      refine .p (.eqlI (.t rfl) (.i rfl) (.p (.assign (.t rfl) ?_)))
      refine .nil ?_
      refine .condP (.t rfl) (fun hc27 => ?_) (fun hc27 => ?_)
      · refine .drawZ [[false, false, false], [false, false, true], [false, false, true], [true, false, true]] [[false, false, true], [false, false, false], [false, false, false], [], [false, false, true], [], [false, false, true], [false, false, true], [false, false, true], [true, false, true], [true, false, true], []] [[], [], [6, 7, 8, 9, 10], []] [] 3 (by kernel_rfl) 12 [[], [], [], [(31, 1), (32, 2)], [], [(34, 4)], [(30, 0), (33, 3), (35, 5)], [(36, 6)], [(29, 7)], [(29, 7)], [(29, 7)], [(37, 8)]] [3, 5, 11] rfl (by kernel_rfl) rfl (by kernel_rfl) rfl (by decide) (by simp) (fun p hp => by cases hp) (by kernel_rfl) rfl ?_
        refine ⟨_, fun H => OpP.ldW ty32 (.t rfl) (Hole.app .z) rfl, ?_⟩
        refine ⟨_, fun H => OpP.move (.t rfl) rfl, ?_⟩
        refine ⟨_, fun H => OpP.ldW ty32 (.t rfl) (Hole.app .z) rfl, ?_⟩
        refine .inl ?_
        refine ⟨_, fun H => OpP.move (.t rfl) rfl, ?_⟩
        refine .inl ?_
        refine .inl ?_
        refine .inl ?_
        refine .inl ?_
        refine .inl ?_
        refine .inl ?_
        refine .inl ?_
        refine ⟨rfl, ?_⟩
        refine ⟨⟨fun k => List.getD [(true, .none_), (true, .none_), (true, .none_)] k (true, .none_), rfl⟩, fun Ys9 => ?_⟩
        refine OpH.callM hG (Known_deck_c _ _ _ (by assumption) (by have := ha.macs; omega) (by have := ha.boxes; omega)) (Hole.app (Hole.app (.s (.s .z)))) (.cons (.t rfl) (.cons (.t rfl) .nil)) (by rintro _ _ ⟨_, _, _, _, rfl⟩; exact ⟨_, rfl⟩) fun r33 B33 hr33 => ?_
        obtain ⟨t33, d33, hd33, rfl, hB⟩ := hr33
        cases hB
        refine ⟨[], _, rfl, ?_⟩
        refine ⟨⟨fun k => List.getD [(true, .none_), (true, .none_), _] k (true, .none_), rfl⟩, fun Ys9 => ?_⟩
        refine OpH.callM hG (Bytes_deck_c _ _ _ (by assumption) (by first | omega | (simp; done) | (simp; omega) | (simp at *; omega)) (by first | omega | (simp; done) | (simp; omega) | (simp at *; omega))) (Hole.app (Hole.app (.s (.s .z)))) (.cons (.t rfl) (.cons (.i rfl) .nil)) (by rintro _ _ ⟨_, _, _, _, _, rfl⟩; exact ⟨_, rfl⟩) fun r35 B35 hr35 => ?_
        obtain ⟨l35, hl35, d35, hd35, rfl, hB⟩ := hr35
        cases hB
        refine ⟨[], _, rfl, ?_⟩
        refine ⟨_, fun H => OpP.call1 hG (rMac_c _ _ _) (.cons (.t rfl) (.cons (.t rfl) (.cons (.t rfl) .nil))) rfl, ?_⟩
        refine ⟨_, fun H => OpP.move (.t rfl) rfl, ?_⟩
        refine ⟨_, fun H => OpP.ext3_0 (.t rfl) rfl, ?_⟩
        refine ⟨_, fun H => OpP.ext3_1 (.t rfl) rfl, ?_⟩
        refine ⟨_, fun H => OpP.ext3_2 (.t rfl) rfl, ?_⟩
        refine ⟨⟨fun k => List.getD [(true, .none_), (true, .none_), _] k (true, .none_), rfl⟩, fun Ys9 => ?_⟩
        refine OpH.stW ty32 (.t rfl) (.t rfl) (Hole.app (Hole.app .z)) ?_
        refine ⟨[], _, rfl, ?_⟩
        refine ⟨⟨fun k => List.getD [_, (true, .none_), _] k (true, .none_), rfl⟩, fun ws9 => ?_⟩
        refine ⟨⟨fun k => List.getD [_, (true, .none_), _] k (true, .none_), rfl⟩, fun _ => ?_⟩
        show wpB _ _ _ _ _ _ ((39, _) :: (38, _) :: (37, _) :: (29, _) :: (36, _) :: (35, _) :: (34, _) :: (33, _) :: (32, _) :: (31, _) :: (30, _) :: _) _
        refine .nil ?_
        refine .region rfl ?_
        refine .p (.move (.t rfl) (.p (.sub (.t rfl) (.i rfl) (by first | omega | (simp; done) | (simp; omega) | (simp at *; omega)) (by first | omega | (simp; done) | (simp; omega) | (simp at *; omega)) (.p (.assign (.t rfl) ?_)))))
        refine .nil ?_
        refine ⟨(k - 1, _, _), .cons (congrArg (fun q => some (AV.v q)) (by dsimp only; omega)) (.cons rfl (.cons rfl (.cons rfl (.nil _)))), rfl, ?_, by dsimp only; omega⟩
        exact ⟨by dsimp only; omega, by dsimp only; first | exact (ha.key (by omega)).le (by omega) | exact (ha.mac (by omega) (by omega)).le (by omega) | exact (ha.boxed (by omega) (by omega) (by omega) (by omega)).le (by omega) | exact ha.le (by omega), by assumption⟩
      · refine .seq ?_
        refine .region rfl ?_
        refine .p (.eqlI (.t rfl) (.i rfl) (.p (.assign (.t rfl) ?_)))
        refine .nil ?_
        refine .condP (.t rfl) (fun hc40 => ?_) (fun hc40 => ?_)
        · refine .drawZ [[false, false, false], [false, false, true], [false, false, true], [false, false, true], [true, false, true]] [[false, false, true], [false, false, false], [false, false, false], [], [false, false, true], [], [false, false, true], [], [false, false, true], [false, false, true], [false, false, true], [true, false, true], [true, false, true], []] [[], [], [], [8, 9, 10, 11, 12], []] [] 4 (by kernel_rfl) 14 [[], [], [], [(44, 1), (45, 2)], [], [(47, 4)], [], [(49, 6)], [(43, 0), (46, 3), (48, 5), (50, 7)], [(51, 8)], [(42, 9)], [(42, 9)], [(42, 9)], [(52, 10)]] [3, 5, 7, 13] rfl (by kernel_rfl) rfl (by kernel_rfl) rfl (by decide) (by simp) (fun p hp => by cases hp) (by kernel_rfl) rfl ?_
          refine ⟨_, fun H => OpP.ldW ty32 (.t rfl) (Hole.app .z) rfl, ?_⟩
          refine ⟨_, fun H => OpP.move (.t rfl) rfl, ?_⟩
          refine ⟨_, fun H => OpP.ldW ty32 (.t rfl) (Hole.app .z) rfl, ?_⟩
          refine .inl ?_
          refine ⟨_, fun H => OpP.move (.t rfl) rfl, ?_⟩
          refine .inl ?_
          refine ⟨_, fun H => OpP.move (.t rfl) rfl, ?_⟩
          refine .inl ?_
          refine .inl ?_
          refine .inl ?_
          refine .inl ?_
          refine .inl ?_
          refine .inl ?_
          refine .inl ?_
          refine ⟨rfl, ?_⟩
          refine ⟨⟨fun k => List.getD [(true, .none_), (true, .none_), (true, .none_)] k (true, .none_), rfl⟩, fun Ys11 => ?_⟩
          refine OpH.callM hG (Known_deck_c _ _ _ (by assumption) (by have := ha.macs; omega) (by have := ha.boxes; omega)) (Hole.app (Hole.app (.s (.s .z)))) (.cons (.t rfl) (.cons (.t rfl) .nil)) (by rintro _ _ ⟨_, _, _, _, rfl⟩; exact ⟨_, rfl⟩) fun r46 B46 hr46 => ?_
          obtain ⟨t46, d46, hd46, rfl, hB⟩ := hr46
          cases hB
          refine ⟨[], _, rfl, ?_⟩
          refine ⟨⟨fun k => List.getD [(true, .none_), (true, .none_), _] k (true, .none_), rfl⟩, fun Ys11 => ?_⟩
          refine OpH.callM hG (Next_e _ _ _ (by assumption) (by first | omega | (simp; done) | (simp; omega) | (simp at *; omega)) (by first | omega | (simp; done) | (simp; omega) | (simp at *; omega))) (Hole.app (Hole.app (.s (.s .z)))) (.cons (.t rfl) (.cons (.i rfl) .nil)) (by rintro _ _ ⟨_, _, _, _, _, _, rfl⟩; exact ⟨_, rfl⟩) fun r48 B48 hr48 => ?_
          obtain ⟨v48, d48, h480, h481, hd48, rfl, hB⟩ := hr48
          cases hB
          refine ⟨[], _, rfl, ?_⟩
          refine ⟨⟨fun k => List.getD [(true, .none_), (true, .none_), _] k (true, .none_), rfl⟩, fun Ys11 => ?_⟩
          refine OpH.callM hG (Bytes_deck_c _ _ _ (by assumption) (by first | omega | (simp; done) | (simp; omega) | (simp at *; omega)) (by first | omega | (simp; done) | (simp; omega) | (simp at *; omega))) (Hole.app (Hole.app (.s (.s .z)))) (.cons (.t rfl) (.cons (.i rfl) .nil)) (by rintro _ _ ⟨_, _, _, _, _, rfl⟩; exact ⟨_, rfl⟩) fun r50 B50 hr50 => ?_
          obtain ⟨l50, hl50, d50, hd50, rfl, hB⟩ := hr50
          cases hB
          refine ⟨[], _, rfl, ?_⟩
          refine ⟨_, fun H => OpP.call1 hG (rSeal_c _ _ _ _ ha.boxLe) (.cons (.t rfl) (.cons (.t rfl) (.cons (.t rfl) (.cons (.t rfl) .nil)))) rfl, ?_⟩
          refine ⟨_, fun H => OpP.move (.t rfl) rfl, ?_⟩
          refine ⟨_, fun H => OpP.ext3_0 (.t rfl) rfl, ?_⟩
          refine ⟨_, fun H => OpP.ext3_1 (.t rfl) rfl, ?_⟩
          refine ⟨_, fun H => OpP.ext3_2 (.t rfl) rfl, ?_⟩
          refine ⟨⟨fun k => List.getD [(true, .none_), (true, .none_), _] k (true, .none_), rfl⟩, fun Ys11 => ?_⟩
          refine OpH.stW ty32 (.t rfl) (.t rfl) (Hole.app (Hole.app .z)) ?_
          refine ⟨[], _, rfl, ?_⟩
          refine ⟨⟨fun k => List.getD [_, (true, .none_), _] k (true, .none_), rfl⟩, fun ws11 => ?_⟩
          refine ⟨⟨fun k => List.getD [_, (true, .none_), _] k (true, .none_), rfl⟩, fun _ => ?_⟩
          show wpB _ _ _ _ _ _ ((54, _) :: (53, _) :: (52, _) :: (42, _) :: (51, _) :: (50, _) :: (49, _) :: (48, _) :: (47, _) :: (46, _) :: (45, _) :: (44, _) :: (43, _) :: _) _
          refine .nil ?_
          refine .region rfl ?_
          refine .p (.move (.t rfl) (.p (.sub (.t rfl) (.i rfl) (by first | omega | (simp; done) | (simp; omega) | (simp at *; omega)) (by first | omega | (simp; done) | (simp; omega) | (simp at *; omega)) (.p (.assign (.t rfl) ?_)))))
          refine .nil ?_
          refine ⟨(k - 1, _, _), .cons (congrArg (fun q => some (AV.v q)) (by dsimp only; omega)) (.cons rfl (.cons rfl (.cons rfl (.nil _)))), rfl, ?_, by dsimp only; omega⟩
          exact ⟨by dsimp only; omega, by dsimp only; first | exact (ha.key (by omega)).le (by omega) | exact (ha.mac (by omega) (by omega)).le (by omega) | exact (ha.boxed (by omega) (by omega) (by omega) (by omega)).le (by omega) | exact ha.le (by omega), by assumption⟩
        · refine .skip ?_
          refine .region rfl ?_
          refine .p (.move (.t rfl) (.p (.sub (.t rfl) (.i rfl) (by first | omega | (simp; done) | (simp; omega) | (simp at *; omega)) (by first | omega | (simp; done) | (simp; omega) | (simp at *; omega)) (.p (.assign (.t rfl) ?_)))))
          refine .nil ?_
          refine ⟨(k - 1, _, _), .cons (congrArg (fun q => some (AV.v q)) (by dsimp only; omega)) (.cons rfl (.cons rfl (.cons rfl (.nil _)))), rfl, ?_, by dsimp only; omega⟩
          exact ⟨by dsimp only; omega, by dsimp only; first | exact (ha.key (by omega)).le (by omega) | exact (ha.mac (by omega) (by omega)).le (by omega) | exact (ha.boxed (by omega) (by omega) (by omega) (by omega)).le (by omega) | exact ha.le (by omega), by assumption⟩
  · refine .exit ?_
    refine .seq ?_
    refine .region rfl ?_
    refine .p (.ldW ty32 (.t rfl) .z (.n (.stW ty32 (.t rfl) (.t rfl) (.s .z) ?_)))
    refine .nil ?_
    refine .ret ?_
    refine ⟨_, .r1 rfl (.cell ty32 rfl (.s .z)), ?_⟩
    refine ⟨_, .cons (.s (.s .z)) (.nil), ?_⟩
    exact ⟨a, _, ha.le (by omega), he, rfl, rfl⟩
end Go.Proofs.YtiekhjbhlekaeaaDoor
