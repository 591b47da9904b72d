/- Plain Lean over any program, and walks of this seat's functions: contracts, each proved once (part 4). -/
import Derived.Test.YtiekhjbhlekaeaaDoorZ3
import Derived.ProofKit
import Derived.OpenShut
import Derived.ShutString
import Derived.ChangeOld
import Derived.Below
import Derived.LaidLaws
import Derived.Handed
import Derived.DataReads
import Derived.Test.YtiekhjbhlekaeaaDoorRows
import Derived.Test.YtiekhjbhlekaeaaDoorTie
import Derived.Test.YtiekhjbhlekaeaaDoorCards
import Derived.SevenTiedAt
set_option maxRecDepth 1000000
set_option linter.unusedVariables false
set_option linter.unusedSimpArgs false
namespace Go.Proofs.YtiekhjbhlekaeaaDoor
open Go.Fl Go.Ab Go.Mac Go.Sha
structure AlgOk (a : Alg) (n : Nat) : Prop where
  macs : a.Macs.length ≤ n
  boxes : a.Boxes.length ≤ n
  fresh0 : 0 ≤ a.Fresh
  fresh1 : a.Fresh ≤ n
  tag : ∀ i (h : i < a.Macs.length), a.Macs[i].Message.length ≤ 1000 ∧ a.Macs[i].Tag = (if a.Free then symTag 109 (i + 1 : Nat) else hmac a.Macs[i].Key.l a.Macs[i].Message)
  uniq : ∀ i (h : i < a.Macs.length), a.Macs.find? (macEq a.Macs[i].Key a.Macs[i].Message) = some a.Macs[i]
  box : ∀ i (h : i < a.Boxes.length), a.Boxes[i].Plain.length ≤ 256 ∧ 0 ≤ a.Boxes[i].Nonce ∧ a.Boxes[i].Nonce ≤ 281474976710656 ∧
    a.Boxes[i].Box = (if a.Free then (symTag 98 (i + 1 : Nat)).l ++ List.replicate (a.Boxes[i].Plain.length + 8) 0 else realBox a.Boxes[i].Key a.Boxes[i].Nonce a.Boxes[i].Plain)
theorem AlgOk.new (free : Bool) (seed : Tag) (n : Nat) : AlgOk ⟨free, seed, 0, [], []⟩ n :=
  ⟨Nat.zero_le _, Nat.zero_le _, Int.le_refl _, Int.natCast_nonneg _, fun i h => (by cases h), fun i h => (by cases h), fun i h => (by cases h)⟩
theorem AlgOk.le {a : Alg} {n m : Nat} (h : AlgOk a n) (hm : n ≤ m) : AlgOk a m :=
  ⟨Nat.le_trans h.macs hm, Nat.le_trans h.boxes hm, h.fresh0, by have := h.fresh1; omega, h.tag, h.uniq, h.box⟩
theorem AlgOk.key {a : Alg} {n : Nat} (h : AlgOk a n) (hn : n < 65536) : AlgOk (algKey a).1 (n + 1) := by
  have := h.fresh1
  have := h.fresh0
  unfold algKey
  rw [if_neg (by omega)]
  exact ⟨Nat.le_succ_of_le h.macs, Nat.le_succ_of_le h.boxes, by show 0 ≤ a.Fresh + 1; omega, by show a.Fresh + 1 ≤ ((n + 1 : Nat) : Int); omega, h.tag, h.uniq, h.box⟩
theorem AlgOk.mac {a : Alg} {n : Nat} (h : AlgOk a n) (hn : n < 65536) {k : Tag} {m : List UInt8} (hm : m.length ≤ 1000) : AlgOk (algMac a k m).1 (n + 1) := by
  have h1 := h.macs
  cases hf : algFind a k m with
  | some x =>
    have e : algMac a k m = (a, x.Tag, 0) := by unfold algMac; rw [if_neg (by omega), hf]
    rw [e]; exact h.le (Nat.le_succ _)
  | none =>
    rw [algMac_new (by omega) hf (by omega)]
    have hnone : ∀ x ∈ a.Macs, macEq k m x = false := fun x hx => by
      have := List.find?_eq_none.1 hf x hx
      simpa using this
    refine ⟨by simp; exact h1, Nat.le_succ_of_le h.boxes, h.fresh0, by have := h.fresh1; show a.Fresh ≤ _; omega, fun i hi => ?_, fun i hi => ?_, h.box⟩
    · simp only [List.length_append, List.length_singleton] at hi
      by_cases e : i < a.Macs.length
      · simp only [List.getElem_append_left e]; exact h.tag i e
      · obtain rfl : i = a.Macs.length := by omega
        simp only [List.getElem_concat_length]
        refine ⟨hm, ?_⟩
        unfold newTag
        rw [show ((a.Macs.length + 1 : Nat) : Int) = (a.Macs.length : Int) + 1 by omega]
    · simp only [List.length_append, List.length_singleton] at hi
      by_cases e : i < a.Macs.length
      · simp only [List.getElem_append_left e]
        rw [List.find?_append, h.uniq i e]; rfl
      · obtain rfl : i = a.Macs.length := by omega
        simp only [List.getElem_concat_length]
        have : a.Macs.find? (macEq k m) = none := hf
        rw [List.find?_append, this]
        simp [macEq]
theorem AlgOk.boxed {a : Alg} {n : Nat} (h : AlgOk a n) (hn : n < 65536) {k : Tag} {c : Int} {p : List UInt8} (hc0 : 0 ≤ c) (hc1 : c ≤ 281474976710656) (hp : p.length ≤ 256) : AlgOk (algSeal a k c p).1 (n + 1) := by
  have h1 := h.boxes
  have hr : (decide (c < 0) || decide (281474976710656 < c)) = false := by simp; omega
  cases hf : a.Boxes.find? (sealEq k c p) with
  | some x => rw [algSeal_found hr (by omega) hf]; exact h.le (Nat.le_succ _)
  | none =>
    rw [algSeal_new hr (by omega) hf (by omega)]
    refine ⟨Nat.le_succ_of_le h.macs, by simp; exact h1, h.fresh0, by have := h.fresh1; show a.Fresh ≤ _; omega, h.tag, h.uniq, fun i hi => ?_⟩
    simp only [List.length_append, List.length_singleton] at hi
    by_cases e : i < a.Boxes.length
    · simp only [List.getElem_append_left e]; exact h.box i e
    · obtain rfl : i = a.Boxes.length := by omega
      simp only [List.getElem_concat_length]
      refine ⟨hp, hc0, hc1, ?_⟩
      unfold newBox
      rw [show ((a.Boxes.length + 1 : Nat) : Int) = (a.Boxes.length : Int) + 1 by omega]
theorem AlgOk.boxLe {a : Alg} {n : Nat} (h : AlgOk a n) : ∀ x ∈ a.Boxes, x.Box.length ≤ 1000000 := fun x hx => by
  obtain ⟨i, hi, rfl⟩ := List.getElem_of_mem hx
  obtain ⟨h1, _, _, h2⟩ := h.box i hi
  rw [h2]
  split
  · simp; omega
  · simp [realBox, sealHead, be64_length, streamL_length]; omega
theorem Next_e (w : Value) (d : G_macaroonmade_Deck) (n : Int) (hd : DeckOk d) (h0 : 0 < n) (h1 : n ≤ 4611686018427387904) :
    FunH gl Tryd.prog 33 [dk w, .v n] [.ob w d] (fun r Hs => ∃ v : Int, ∃ d', 0 ≤ v ∧ v < n ∧ DeckOk d' ∧ r = .v v ∧ Hs = [.ob w d']) :=
  (Next_c w d n hd h0 h1).mono fun r Hs ⟨h2, h3⟩ => ⟨_, _, (deckNext_le h0).1, (deckNext_le h0).2, deckNext_ok hd, h2, h3⟩
theorem Algebra_deck_c (w : Value) (d : G_macaroonmade_Deck) (hd : DeckOk d) : FunH gl Tryd.prog 18 [dk w] [.ob w d] (fun r Hs => ∃ a : Alg, ∃ d', AlgOk a 4 ∧ DeckOk d' ∧ r = .v a ∧ Hs = [.ob w d']) := by
  refine FunH.introS Tryd.func18 rfl (by kernel_rfl) 56 rfl rfl _ rfl _ rfl fun C hC hG => ?_
  refine .seq ?_
  refine .region rfl ?_
  refine .h (.alloc ty32 fun b2 => ?_)
  refine .nil ?_
  refine .seq ?_
  refine .region rfl ?_
  refine .p (.move (.t rfl) (.h (.callM hG (Next_e _ _ _ (by assumption) (by first | omega | (simp; done) | (simp; omega) | (simp at *; omega)) (by first | omega | (simp; done) | (simp; omega) | (simp at *; omega))) (.s .z) (.cons (.t rfl) (.cons (.i rfl) .nil)) (by rintro _ _ ⟨_, _, _, _, _, _, rfl⟩; exact ⟨_, rfl⟩) fun r6 B6 hr6 => ?_)))
  obtain ⟨v6, d6, h60, h61, hd6, rfl, hB⟩ := hr6
  cases hB
  refine .p (.eqlI (.t rfl) (.i rfl) (.p (.move (.t rfl) (.h (.callM hG (Tag_deck_c _ _ (by assumption)) (.s .z) (.cons (.t rfl) .nil) (by rintro _ _ ⟨_, _, _, _, rfl⟩; exact ⟨_, rfl⟩) fun r9 B9 hr9 => ?_)))))
  obtain ⟨t9, d9, hd9, rfl, hB⟩ := hr9
  cases hB
  refine .p (.call1 hG (rNew_c _ _) (.cons (.t rfl) (.cons (.t rfl) .nil)) (.h (.alloc ty32 fun b3 => .n (.stW ty32 (.t rfl) (.t rfl) .z ?_))))
  refine .nil ?_
  refine .seq ?_
  refine .seq ?_
  refine .region rfl ?_
  refine .p (.move (.t rfl) (.h (.callM hG (Next_e _ _ _ (by assumption) (by first | omega | (simp; done) | (simp; omega) | (simp at *; omega)) (by first | omega | (simp; done) | (simp; omega) | (simp at *; omega))) (.s (.s .z)) (.cons (.t rfl) (.cons (.i rfl) .nil)) (by rintro _ _ ⟨_, _, _, _, _, _, rfl⟩; exact ⟨_, rfl⟩) fun r12 B12 hr12 => ?_)))
  obtain ⟨v12, d12, h120, h121, hd12, rfl, hB⟩ := hr12
  cases hB
  refine .p (.assign (.t rfl) ?_)
  refine .nil ?_
  refine .block ?_
  refine .loopR (α := Nat × Alg × G_macaroonmade_Deck) [(0, _), (2, _), (3, _)] (fun x R => (4, .v (x.1 : Int)) :: R) (fun x => [(true, .ob (ptr b3 0) x.2.1), (true, .ob (ptr b2 0) (default : Alg)), (false, .ob w x.2.2)]) (fun x => x.1 ≤ 4 ∧ AlgOk x.2.1 (4 - x.1) ∧ DeckOk x.2.2) (fun x => x.1) ((v12.toNat, ⟨decide (v6 = 0), t9, 0, [], []⟩, d12)) (.cons rfl (.cons rfl (.cons rfl (.nil _)))) ?_ (.cons (congrArg (fun q => some (AV.v q)) (by dsimp only; omega)) (.cons rfl (.cons rfl (.cons rfl (.nil _))))) (rfl) fun x hF => ?_
  · exact ⟨by dsimp only; omega, AlgOk.new _ _ _, hd12⟩
  obtain ⟨k, a, e⟩ := x
  obtain ⟨hk, ha, he⟩ := hF
  dsimp only at hk ha he ⊢
  refine .seq ?_
  refine .seq ?_
  refine .region rfl ?_
  refine .p (.move (.t rfl) (.p (.gtr (.t rfl) (.i rfl) ?_)))
  refine .nil ?_
  refine .condP (.t rfl) (fun hc14 => ?_) (fun hc14 => ?_)
  · refine .skip ?_
    refine .seq ?_
    refine .block ?_
    refine .seq ?_
    refine .region rfl ?_
    refine .p (.move (.t rfl) (.h (.callM hG (Next_e _ _ _ (by assumption) (by first | omega | (simp; done) | (simp; omega) | (simp at *; omega)) (by first | omega | (simp; done) | (simp; omega) | (simp at *; omega))) (.s (.s .z)) (.cons (.t rfl) (.cons (.i rfl) .nil)) (by rintro _ _ ⟨_, _, _, _, _, _, rfl⟩; exact ⟨_, rfl⟩) fun r18 B18 hr18 => ?_)))
    obtain ⟨v18, d18, h180, h181, hd18, rfl, hB⟩ := hr18
    cases hB
    refine .nil ?_
    refine .block ?_
    refine .seq ?_
    refine .region rfl ?_
    refine .p (.eqlI (.t rfl) (.i rfl) (.p (.assign (.t rfl) ?_)))
    refine .nil ?_
    refine .condP (.t rfl) (fun hc19 => ?_) (fun hc19 => ?_)
    · refine .region rfl ?_
      refine .p (.ldW ty32 (.t rfl) .z (.p (.call1 hG (rKey_c _ ha.fresh0) (.cons (.t rfl) .nil) (.p (.move (.t rfl) (.p (.ext3_0 (.t rfl) (.p (.ext3_1 (.t rfl) (.p (.ext3_2 (.t rfl) ?_)))))))))))
      refine .n (.stW ty32 (.t rfl) (.t rfl) .z ?_)
      refine .nil ?_
      refine .region rfl ?_
      refine .p (.move (.t rfl) (.p (.sub (.t rfl) (.i rfl) (by first | omega | (simp; done) | (simp; omega) | (simp at *; omega)) (by first | omega | (simp; done) | (simp; omega) | (simp at *; omega)) (.p (.assign (.t rfl) ?_)))))
      refine .nil ?_
      refine ⟨(k - 1, _, _), .cons (congrArg (fun q => some (AV.v q)) (by dsimp only; omega)) (.cons rfl (.cons rfl (.cons rfl (.nil _)))), rfl, ?_, by dsimp only; omega⟩
      exact ⟨by dsimp only; omega, by dsimp only; first | exact (ha.key (by omega)).le (by omega) | exact (ha.mac (by omega) (by omega)).le (by omega) | exact (ha.boxed (by omega) (by omega) (by omega) (by omega)).le (by omega) | exact ha.le (by omega), by assumption⟩
    · refine .seq ?_
      refine .region rfl ?_
      refine .p (.eqlI (.t rfl) (.i rfl) (.p (.assign (.t rfl) ?_)))
      refine .nil ?_
      refine .condP (.t rfl) (fun hc27 => ?_) (fun hc27 => ?_)
      · refine .drawZ [[false, false, false], [false, false, true], [false, false, true], [true, false, true]] [[false, false, true], [false, false, false], [false, false, false], [], [false, false, true], [], [false, false, true], [false, false, true], [false, false, true], [true, false, true], [true, false, true], []] [[], [], [6, 7, 8, 9, 10], []] [] 3 (by kernel_rfl) 12 [[], [], [], [(31, 1), (32, 2)], [], [(34, 4)], [(30, 0), (33, 3), (35, 5)], [(36, 6)], [(29, 7)], [(29, 7)], [(29, 7)], [(37, 8)]] [3, 5, 11] rfl (by kernel_rfl) rfl (by kernel_rfl) rfl (by decide) (by simp) (fun p hp => by cases hp) (by kernel_rfl) rfl ?_
        refine ⟨_, fun H => OpP.ldW ty32 (.t rfl) (Hole.app .z) rfl, ?_⟩
        refine ⟨_, fun H => OpP.move (.t rfl) rfl, ?_⟩
        refine ⟨_, fun H => OpP.ldW ty32 (.t rfl) (Hole.app .z) rfl, ?_⟩
        refine .inl ?_
        refine ⟨_, fun H => OpP.move (.t rfl) rfl, ?_⟩
        refine .inl ?_
        refine .inl ?_
        refine .inl ?_
        refine .inl ?_
        refine .inl ?_
        refine .inl ?_
        refine .inl ?_
        refine ⟨rfl, ?_⟩
        refine ⟨⟨fun k => List.getD [(true, .none_), (true, .none_), (true, .none_)] k (true, .none_), rfl⟩, fun Ys9 => ?_⟩
        refine OpH.callM hG (Known_deck_c _ _ _ (by assumption) (by have := ha.macs; omega) (by have := ha.boxes; omega)) (Hole.app (Hole.app (.s (.s .z)))) (.cons (.t rfl) (.cons (.t rfl) .nil)) (by rintro _ _ ⟨_, _, _, _, rfl⟩; exact ⟨_, rfl⟩) fun r33 B33 hr33 => ?_
        obtain ⟨t33, d33, hd33, rfl, hB⟩ := hr33
        cases hB
        refine ⟨[], _, rfl, ?_⟩
        refine ⟨⟨fun k => List.getD [(true, .none_), (true, .none_), _] k (true, .none_), rfl⟩, fun Ys9 => ?_⟩
        refine OpH.callM hG (Bytes_deck_c _ _ _ (by assumption) (by first | omega | (simp; done) | (simp; omega) | (simp at *; omega)) (by first | omega | (simp; done) | (simp; omega) | (simp at *; omega))) (Hole.app (Hole.app (.s (.s .z)))) (.cons (.t rfl) (.cons (.i rfl) .nil)) (by rintro _ _ ⟨_, _, _, _, _, rfl⟩; exact ⟨_, rfl⟩) fun r35 B35 hr35 => ?_
        obtain ⟨l35, hl35, d35, hd35, rfl, hB⟩ := hr35
        cases hB
        refine ⟨[], _, rfl, ?_⟩
        refine ⟨_, fun H => OpP.call1 hG (rMac_c _ _ _) (.cons (.t rfl) (.cons (.t rfl) (.cons (.t rfl) .nil))) rfl, ?_⟩
        refine ⟨_, fun H => OpP.move (.t rfl) rfl, ?_⟩
        refine ⟨_, fun H => OpP.ext3_0 (.t rfl) rfl, ?_⟩
        refine ⟨_, fun H => OpP.ext3_1 (.t rfl) rfl, ?_⟩
        refine ⟨_, fun H => OpP.ext3_2 (.t rfl) rfl, ?_⟩
        refine ⟨⟨fun k => List.getD [(true, .none_), (true, .none_), _] k (true, .none_), rfl⟩, fun Ys9 => ?_⟩
        refine OpH.stW ty32 (.t rfl) (.t rfl) (Hole.app (Hole.app .z)) ?_
        refine ⟨[], _, rfl, ?_⟩
        refine ⟨⟨fun k => List.getD [_, (true, .none_), _] k (true, .none_), rfl⟩, fun ws9 => ?_⟩
        refine ⟨⟨fun k => List.getD [_, (true, .none_), _] k (true, .none_), rfl⟩, fun _ => ?_⟩
        show wpB _ _ _ _ _ _ ((39, _) :: (38, _) :: (37, _) :: (29, _) :: (36, _) :: (35, _) :: (34, _) :: (33, _) :: (32, _) :: (31, _) :: (30, _) :: _) _
        refine .nil ?_
        refine .region rfl ?_
        refine .p (.move (.t rfl) (.p (.sub (.t rfl) (.i rfl) (by first | omega | (simp; done) | (simp; omega) | (simp at *; omega)) (by first | omega | (simp; done) | (simp; omega) | (simp at *; omega)) (.p (.assign (.t rfl) ?_)))))
        refine .nil ?_
        refine ⟨(k - 1, _, _), .cons (congrArg (fun q => some (AV.v q)) (by dsimp only; omega)) (.cons rfl (.cons rfl (.cons rfl (.nil _)))), rfl, ?_, by dsimp only; omega⟩
        exact ⟨by dsimp only; omega, by dsimp only; first | exact (ha.key (by omega)).le (by omega) | exact (ha.mac (by omega) (by omega)).le (by omega) | exact (ha.boxed (by omega) (by omega) (by omega) (by omega)).le (by omega) | exact ha.le (by omega), by assumption⟩
      · refine .seq ?_
        refine .region rfl ?_
        refine .p (.eqlI (.t rfl) (.i rfl) (.p (.assign (.t rfl) ?_)))
        refine .nil ?_
        refine .condP (.t rfl) (fun hc40 => ?_) (fun hc40 => ?_)
        · refine .drawZ [[false, false, false], [false, false, true], [false, false, true], [false, false, true], [true, false, true]] [[false, false, true], [false, false, false], [false, false, false], [], [false, false, true], [], [false, false, true], [], [false, false, true], [false, false, true], [false, false, true], [true, false, true], [true, false, true], []] [[], [], [], [8, 9, 10, 11, 12], []] [] 4 (by kernel_rfl) 14 [[], [], [], [(44, 1), (45, 2)], [], [(47, 4)], [], [(49, 6)], [(43, 0), (46, 3), (48, 5), (50, 7)], [(51, 8)], [(42, 9)], [(42, 9)], [(42, 9)], [(52, 10)]] [3, 5, 7, 13] rfl (by kernel_rfl) rfl (by kernel_rfl) rfl (by decide) (by simp) (fun p hp => by cases hp) (by kernel_rfl) rfl ?_
          refine ⟨_, fun H => OpP.ldW ty32 (.t rfl) (Hole.app .z) rfl, ?_⟩
          refine ⟨_, fun H => OpP.move (.t rfl) rfl, ?_⟩
          refine ⟨_, fun H => OpP.ldW ty32 (.t rfl) (Hole.app .z) rfl, ?_⟩
          refine .inl ?_
          refine ⟨_, fun H => OpP.move (.t rfl) rfl, ?_⟩
          refine .inl ?_
          refine ⟨_, fun H => OpP.move (.t rfl) rfl, ?_⟩
          refine .inl ?_
          refine .inl ?_
          refine .inl ?_
          refine .inl ?_
          refine .inl ?_
          refine .inl ?_
          refine .inl ?_
          refine ⟨rfl, ?_⟩
          refine ⟨⟨fun k => List.getD [(true, .none_), (true, .none_), (true, .none_)] k (true, .none_), rfl⟩, fun Ys11 => ?_⟩
          refine OpH.callM hG (Known_deck_c _ _ _ (by assumption) (by have := ha.macs; omega) (by have := ha.boxes; omega)) (Hole.app (Hole.app (.s (.s .z)))) (.cons (.t rfl) (.cons (.t rfl) .nil)) (by rintro _ _ ⟨_, _, _, _, rfl⟩; exact ⟨_, rfl⟩) fun r46 B46 hr46 => ?_
          obtain ⟨t46, d46, hd46, rfl, hB⟩ := hr46
          cases hB
          refine ⟨[], _, rfl, ?_⟩
          refine ⟨⟨fun k => List.getD [(true, .none_), (true, .none_), _] k (true, .none_), rfl⟩, fun Ys11 => ?_⟩
          refine OpH.callM hG (Next_e _ _ _ (by assumption) (by first | omega | (simp; done) | (simp; omega) | (simp at *; omega)) (by first | omega | (simp; done) | (simp; omega) | (simp at *; omega))) (Hole.app (Hole.app (.s (.s .z)))) (.cons (.t rfl) (.cons (.i rfl) .nil)) (by rintro _ _ ⟨_, _, _, _, _, _, rfl⟩; exact ⟨_, rfl⟩) fun r48 B48 hr48 => ?_
          obtain ⟨v48, d48, h480, h481, hd48, rfl, hB⟩ := hr48
          cases hB
          refine ⟨[], _, rfl, ?_⟩
          refine ⟨⟨fun k => List.getD [(true, .none_), (true, .none_), _] k (true, .none_), rfl⟩, fun Ys11 => ?_⟩
          refine OpH.callM hG (Bytes_deck_c _ _ _ (by assumption) (by first | omega | (simp; done) | (simp; omega) | (simp at *; omega)) (by first | omega | (simp; done) | (simp; omega) | (simp at *; omega))) (Hole.app (Hole.app (.s (.s .z)))) (.cons (.t rfl) (.cons (.i rfl) .nil)) (by rintro _ _ ⟨_, _, _, _, _, rfl⟩; exact ⟨_, rfl⟩) fun r50 B50 hr50 => ?_
          obtain ⟨l50, hl50, d50, hd50, rfl, hB⟩ := hr50
          cases hB
          refine ⟨[], _, rfl, ?_⟩
          refine ⟨_, fun H => OpP.call1 hG (rSeal_c _ _ _ _ ha.boxLe) (.cons (.t rfl) (.cons (.t rfl) (.cons (.t rfl) (.cons (.t rfl) .nil)))) rfl, ?_⟩
          refine ⟨_, fun H => OpP.move (.t rfl) rfl, ?_⟩
          refine ⟨_, fun H => OpP.ext3_0 (.t rfl) rfl, ?_⟩
          refine ⟨_, fun H => OpP.ext3_1 (.t rfl) rfl, ?_⟩
          refine ⟨_, fun H => OpP.ext3_2 (.t rfl) rfl, ?_⟩
          refine ⟨⟨fun k => List.getD [(true, .none_), (true, .none_), _] k (true, .none_), rfl⟩, fun Ys11 => ?_⟩
          refine OpH.stW ty32 (.t rfl) (.t rfl) (Hole.app (Hole.app .z)) ?_
          refine ⟨[], _, rfl, ?_⟩
          refine ⟨⟨fun k => List.getD [_, (true, .none_), _] k (true, .none_), rfl⟩, fun ws11 => ?_⟩
          refine ⟨⟨fun k => List.getD [_, (true, .none_), _] k (true, .none_), rfl⟩, fun _ => ?_⟩
          show wpB _ _ _ _ _ _ ((54, _) :: (53, _) :: (52, _) :: (42, _) :: (51, _) :: (50, _) :: (49, _) :: (48, _) :: (47, _) :: (46, _) :: (45, _) :: (44, _) :: (43, _) :: _) _
          refine .nil ?_
          refine .region rfl ?_
          refine .p (.move (.t rfl) (.p (.sub (.t rfl) (.i rfl) (by first | omega | (simp; done) | (simp; omega) | (simp at *; omega)) (by first | omega | (simp; done) | (simp; omega) | (simp at *; omega)) (.p (.assign (.t rfl) ?_)))))
          refine .nil ?_
          refine ⟨(k - 1, _, _), .cons (congrArg (fun q => some (AV.v q)) (by dsimp only; omega)) (.cons rfl (.cons rfl (.cons rfl (.nil _)))), rfl, ?_, by dsimp only; omega⟩
          exact ⟨by dsimp only; omega, by dsimp only; first | exact (ha.key (by omega)).le (by omega) | exact (ha.mac (by omega) (by omega)).le (by omega) | exact (ha.boxed (by omega) (by omega) (by omega) (by omega)).le (by omega) | exact ha.le (by omega), by assumption⟩
        · refine .skip ?_
          refine .region rfl ?_
          refine .p (.move (.t rfl) (.p (.sub (.t rfl) (.i rfl) (by first | omega | (simp; done) | (simp; omega) | (simp at *; omega)) (by first | omega | (simp; done) | (simp; omega) | (simp at *; omega)) (.p (.assign (.t rfl) ?_)))))
          refine .nil ?_
          refine ⟨(k - 1, _, _), .cons (congrArg (fun q => some (AV.v q)) (by dsimp only; omega)) (.cons rfl (.cons rfl (.cons rfl (.nil _)))), rfl, ?_, by dsimp only; omega⟩
          exact ⟨by dsimp only; omega, by dsimp only; first | exact (ha.key (by omega)).le (by omega) | exact (ha.mac (by omega) (by omega)).le (by omega) | exact (ha.boxed (by omega) (by omega) (by omega) (by omega)).le (by omega) | exact ha.le (by omega), by assumption⟩
  · refine .exit ?_
    refine .seq ?_
    refine .region rfl ?_
    refine .p (.ldW ty32 (.t rfl) .z (.n (.stW ty32 (.t rfl) (.t rfl) (.s .z) ?_)))
    refine .nil ?_
    refine .ret ?_
    refine ⟨_, .r1 rfl (.cell ty32 rfl (.s .z)), ?_⟩
    refine ⟨_, .cons (.s (.s .z)) (.nil), ?_⟩
    exact ⟨a, _, ha.le (by omega), he, rfl, rfl⟩
end Go.Proofs.YtiekhjbhlekaeaaDoor
set_option maxRecDepth 1000000
set_option linter.unusedVariables false
set_option linter.unusedSimpArgs false
namespace Go.Proofs.YtiekhjbhlekaeaaDoor
open Go.Fl Go.Ab Go.Mac Go.Sha
structure Made (a : Alg) (n : Nat) (k : Tag) (m : List UInt8) (b : Alg) (t : Tag) : Prop where
  mac : algMac a k m = (b, t, 0)
  again : algMac b k m = (b, t, 0)
  look : algLook b k m = (t, true)
  len : b.Macs.length ≤ a.Macs.length + 1
  len2 : a.Macs.length ≤ b.Macs.length
  old : ∀ i (h : i < a.Macs.length), algLook b a.Macs[i].Key a.Macs[i].Message = (a.Macs[i].Tag, true)
  ok : AlgOk b (n + 1)
end Go.Proofs.YtiekhjbhlekaeaaDoor
set_option maxRecDepth 1000000
set_option linter.unusedVariables false
set_option linter.unusedSimpArgs false
namespace Go.Proofs.YtiekhjbhlekaeaaDoor
open Go.Fl Go.Ab Go.Mac Go.Sha
theorem seal_as {a b : Alg} {k : Tag} {n : Int} {p x : List UInt8} {e : Int} (hl : a.Boxes.length ≤ 1000000) (hb : ∀ y ∈ a.Boxes, y.Box.length ≤ 1000000) (h : algSeal a k n p = (b, x, e)) : FunA gl Tryd.prog 36 [.v a, .v k, .v n, .v p] (fun r => r = .t3 (.v b) (.v x) (.v e)) :=
  (algSeal_c a k n p hl hb).mono fun r hr => by rw [hr, h]
theorem open_as {a : Alg} {k : Tag} {b p : List UInt8} {e : Int} (hb : ∀ y ∈ a.Boxes, y.Plain.length ≤ 1000000) (h : algOpen a k b = (p, e)) : FunA gl Tryd.prog 39 [.v a, .v k, .v b] (fun r => r = .t2 (.v p) (.v e)) :=
  (boxOpen_c a k b hb).mono fun r hr => by rw [hr, h]
theorem AlgOk.plainLe {a : Alg} {n : Nat} (h : AlgOk a n) : ∀ x ∈ a.Boxes, x.Plain.length ≤ 1000000 := fun x hx => by
  obtain ⟨i, hi, rfl⟩ := List.getElem_of_mem hx
  have := (h.box i hi).1
  omega
def bx11 : List UInt8 := (symTag 98 1).l ++ List.replicate 10 0
theorem symTag_len (c : UInt8) (n : Int) : (symTag c n).l.length = 32 := (symTag c n).len
theorem bx11_len : bx11.length = 42 := by unfold bx11; rw [List.length_append, symTag_len, List.length_replicate]
abbrev T1 : Tag := (Lens.idx 0 (by decide)).set 1 default
abbrev T2 : Tag := (Lens.idx 0 (by decide)).set 2 default
def aw11 : Alg := ⟨true, default, 0, [], [⟨T1, 0, [5, 6], bx11⟩]⟩
theorem aw11_1 : algSeal ⟨true, default, 0, [], []⟩ T1 0 [5, 6] = (aw11, bx11, 0) := by
  rw [algSeal_new (by decide) (by decide) rfl (by decide)]; rfl
theorem aw11_2 : algOpen aw11 T1 bx11 = ([5, 6], 0) := by
  rw [algOpen_found rfl (x := ⟨T1, 0, [5, 6], bx11⟩)]
  simp [aw11, openEq]
theorem T12 : T1 ≠ T2 := by decide
theorem aw11_3 : algOpen aw11 T2 bx11 = ([], 14) := by
  rw [algOpen_none rfl]
  simp [aw11, openEq, T12]
theorem awake11_c : FunA gl Tryd.prog 38 [] (fun r => r = .v true) := by
  refine FunA.intro Tryd.func38 rfl (by kernel_rfl) 50 rfl rfl _ rfl fun C hC hG => ?_
  refine .seq ?_
  refine .region rfl ?_
  refine .p (.assign .b ?_)
  refine .nil ?_
  refine .seq ?_
  refine .region rfl ?_
  refine .p (.bS1 G_api_Algebra.l0 rfl ty32 fo32 (fun c0 => (⟨c0, default, 0, [], []⟩ : G_api_Algebra)) (fun _ => rfl) rfl rfl .b (.p (.buildA _ ty28 ar28 (.cons (Lens.idx 0 (by decide)) _ rfl (.u8 1 rfl) .nil) rfl (.h (.buildSlice (α := UInt8) ty5 Tryd.underlying23 (.cons (.u8 5 rfl) (.cons (.u8 6 rfl) .nil)) rfl (by decide) fun b11 => ?_)))))
  refine .frzOwn hC .z ?_
  refine .as 11 rfl .z ?_
  refine .p (.call1 hG (seal_as (by decide) (by intro y hy; cases hy) aw11_1) (.cons (.t rfl) (.cons (.t rfl) (.cons (.i rfl) (.cons (.t rfl) .nil)))) (.p (.move (.t rfl) (.p (.ext3_0 (.t rfl) (.p (.ext3_1 (.t rfl) (.p (.ext3_2 (.t rfl) (.h (.alloc ty32 fun b1 => ?_)))))))))))
  refine .n (.stW ty32 (.t rfl) (.t rfl) .z (.p (.assign (.t rfl) (.p (.assign (.t rfl) ?_)))))
  refine .nil ?_
  refine .seq ?_
  refine .region rfl ?_
  refine .p (.ldW ty32 (.t rfl) .z (.p (.buildA _ ty28 ar28 (.cons (Lens.idx 0 (by decide)) _ rfl (.u8 1 rfl) .nil) rfl (.p (.move (.t rfl) (.p (.call1 hG (open_as (by intro y hy; simp [aw11] at hy; subst hy; decide) aw11_2) (.cons (.t rfl) (.cons (.t rfl) (.cons (.t rfl) .nil))) (.p (.move (.t rfl) (.p (.ext2_0 (.t rfl) ?_)))))))))))
  refine .p (.ext2_1 (.t rfl) (.p (.assign (.t rfl) (.p (.assign (.t rfl) ?_)))))
  refine .nil ?_
  refine .seq ?_
  refine .region rfl ?_
  refine .p (.ldW ty32 (.t rfl) .z (.p (.buildA _ ty28 ar28 (.cons (Lens.idx 0 (by decide)) _ rfl (.u8 2 rfl) .nil) rfl (.p (.move (.t rfl) (.p (.call1 hG (open_as (by intro y hy; simp [aw11] at hy; subst hy; decide) aw11_3) (.cons (.t rfl) (.cons (.t rfl) (.cons (.t rfl) .nil))) (.p (.move (.t rfl) (.p (.ext2_0 (.t rfl) ?_)))))))))))
  refine .p (.ext2_1 (.t rfl) (.p (.assign (.t rfl) (.p (.assign (.t rfl) ?_)))))
  refine .nil ?_
  refine .seq ?_
  refine .region rfl ?_
  refine .p (.move (.t rfl) (.p (.eqlI (.t rfl) (.i rfl) (.p (.move (.t rfl) ?_)))))
  refine .gk 32 rfl (.t rfl) (by simp [bx11_len]) (.ofP (.move (.t rfl) ?_))
  refine .gk 32 rfl (.t rfl) (by simp [bx11_len]) (.ofP (.eqlI (.t rfl) (.i rfl) ?_))
  refine .p (.pickAnd (.t rfl) (fun hp => (.t rfl)) (.p (.move (.t rfl) ?_)))
  refine .gk 36 rfl (.t rfl) (by simp [bx11_len]) (.ofP (.move (.t rfl) ?_))
  refine .gk 36 rfl (.t rfl) (by simp [bx11_len]) (.ofP (.eqlI (.t rfl) (.i rfl) ?_))
  refine .p (.pickAnd (.t rfl) (fun hp => (.t rfl)) (.p (.move (.t rfl) ?_)))
  refine .gk 40 rfl (.t rfl) (by simp [bx11_len]) (.ofP (.move (.t rfl) ?_))
  refine .gk 40 rfl (.t rfl) (by simp [bx11_len]) (.ofP (.len Tryd.underlying23 (.t rfl) ?_))
  refine .gk 40 rfl (.t rfl) (by simp [bx11_len]) (.ofP (.eqlI (.t rfl) (.i rfl) ?_))
  refine .p (.pickAnd (.t rfl) (fun hp => (.t rfl)) (.p (.move (.t rfl) ?_)))
  refine .gk 45 rfl (.t rfl) (by simp [bx11_len]) (.ofP (.move (.t rfl) ?_))
  refine .gk 45 rfl (.t rfl) (by simp [bx11_len]) (.buildSlice (α := UInt8) ty5 Tryd.underlying23 (.cons (.u8 5 rfl) (.cons (.u8 6 rfl) .nil)) rfl (by decide) fun b47 => ?_)
  refine .frzOwn hC .z ?_
  refine .as 47 rfl .z ?_
  refine .gk 45 rfl (.t rfl) (by simp [bx11_len]) (.ofP (.call1 hG (Same_c _ _) (.cons (.t rfl) (.cons (.t rfl) .nil)) ?_))
  refine .p (.pickAnd (.t rfl) (fun hp => (.t rfl)) (.p (.assign (.t rfl) ?_)))
  refine .nil ?_
  refine .ret ?_
  refine ⟨_, .r1 rfl (.tmp rfl), ?_⟩
  simp [bx11_len]
theorem BoxSeal_c (deck : List Int) (plain : List UInt8) (nonce : Int) (n : UInt8) : FunA gl Tryd.prog 9 [.v deck, .v plain, .v nonce, .v n] (fun r => r = .v true) := by
  refine FunA.intro Tryd.func9 rfl (by kernel_rfl) 108 rfl rfl _ rfl fun C hC hG => ?_
  refine .seq ?_
  refine .region rfl ?_
  refine .p (.assign .b ?_)
  refine .nil ?_
  refine .seq ?_
  refine .region rfl ?_
  refine .p (.move (.t rfl) (.p (.move (.t rfl) (.p (.len Tryd.underlying23 (.t rfl) (.p (.minI (.t rfl) (.i rfl) (.p (.slHi ty5 Tryd.underlying23 (.t rfl) (.t rfl) (by first | omega | (simp; done) | (simp; omega) | (simp at *; omega)) (by first | omega | (simp; done) | (simp; omega) | (simp at *; omega)) (.p (.assign (.t rfl) ?_)))))))))))
  refine .nil ?_
  refine .seq ?_
  refine .region rfl ?_
  refine .p (.move (.t rfl) (.h (.call0 hG (deckNew_c _) (.cons (.t rfl) .nil) fun r28 Hs28 hr28 => ?_)))
  obtain ⟨b28, rfl, rfl⟩ := hr28
  show wpB _ _ _ _ _ _ _ ((true, _) :: _)
  have hd : DeckOk (⟨deck, 0⟩ : G_macaroonmade_Deck) := Int.le_refl 0
  refine .p (.assign (.t rfl) ?_)
  refine .nil ?_
  refine .seq ?_
  refine .region rfl ?_
  refine .p (.move (.t rfl) (.h (.callM hG (Algebra_deck_c _ _ (by assumption)) .z (.cons (.t rfl) .nil) (by rintro _ _ ⟨_, _, _, _, _, rfl⟩; exact ⟨_, rfl⟩) fun r30 B30 hr30 => ?_)))
  obtain ⟨a, d30, ha, hd30, rfl, hB⟩ := hr30
  cases hB
  refine .h (.alloc ty32 fun b10 => .n (.stW ty32 (.t rfl) (.t rfl) .z ?_))
  refine .nil ?_
  refine .seq ?_
  refine .region rfl ?_
  refine .p (.move (.t rfl) (.p (.ldW ty32 (.t rfl) .z (.h (.callM hG (Known_deck_c _ _ _ (by assumption) (by have := ha.macs; omega) (by have := ha.boxes; omega)) (.s .z) (.cons (.t rfl) (.cons (.t rfl) .nil)) (by rintro _ _ ⟨_, _, _, _, rfl⟩; exact ⟨_, rfl⟩) fun r33 B33 hr33 => ?_)))))
  obtain ⟨k33, d33, hd33, rfl, hB⟩ := hr33
  cases hB
  refine .h (.alloc ty28 fun b11 => .n (.stW ty28 (.t rfl) (.t rfl) .z ?_))
  refine .nil ?_
  refine .seq ?_
  refine .region rfl ?_
  refine .p (.move (.t rfl) (.p (.move (.t rfl) (.p (.convI8 Tryd.underlying5 Tryd.underlying3 (.t rfl) (.p (.rem (.t rfl) (.i rfl) (by first | omega | (simp; done) | (simp; omega) | (simp at *; omega)) (by first | omega | (simp; done) | (simp; omega) | (simp at *; omega)) (.p (.add (.i rfl) (.t rfl) (by first | omega | (simp; done) | (simp; omega) | (simp at *; omega)) (by first | omega | (simp; done) | (simp; omega) | (simp at *; omega)) (.h (.make st23 (.t rfl) (by first | omega | (simp; done) | (simp; omega) | (simp at *; omega)) (by first | omega | (simp; done) | (simp; omega) | (simp at *; omega)) (by first | omega | (simp; done) | (simp; omega) | (simp at *; omega)) fun b39 => ?_)))))))))))
  refine .frzOwn hC .z ?_
  refine .as 39 rfl .z ?_
  refine .h (.buildSlice (α := (List UInt8)) ty23 Tryd.underlying36 (.cons (.t rfl) (.cons (.t rfl) (.cons .nilS .nil))) rfl (by decide) fun b40 => .p (.assign (.t rfl) ?_))
  refine .nil ?_
  refine .seq ?_
  refine .seq ?_
  refine .forget (.s (.s (.s (.s .z)))) ?_
  refine .forget (.s .z) ?_
  refine .region rfl ?_
  refine .p (.assign (.i rfl) ?_)
  refine .nil ?_
  refine .block ?_
  refine .loopR (α := Nat × Value × List (List UInt8)) [(2, _), (10, _), (11, _)] (fun x R => (12, .raw x.2.1) :: (13, .v (x.1 : Int)) :: R) (fun x => [(true, .own 23 x.2.1 x.2.2), (true, .none_), (true, .ob (ptr b11 0) k33), (true, .ob (ptr b10 0) a), (true, .none_)]) (fun x => x.1 ≤ a.Boxes.length ∧ x.2.2.length ≤ 3 + x.1) (fun x => a.Boxes.length - x.1) ((0, _, _)) (.cons rfl (.cons rfl (.cons rfl (.nil _)))) ?_ (.cons rfl (.cons rfl (.cons rfl (.cons rfl (.cons rfl (.nil _)))))) (rfl) fun x hF => ?_
  · exact ⟨Nat.zero_le _, by simp⟩
  obtain ⟨i, w, ls⟩ := x
  obtain ⟨h1, h2⟩ := hF
  dsimp only at h1 h2 ⊢
  have h3 := ha.boxes
  refine .seq ?_
  refine .seq ?_
  refine .region rfl ?_
  refine .p (.move (.t rfl) (.p (.fldW G_api_Algebra.l4 fd32_4 rfl (.t rfl) (.p (.ldF (fun x => x.Boxes) ty30 (.t rfl) (.s (.s (.s .z))) (fun _ => rfl) (.p (.len Tryd.underlying30 (.t rfl) (.p (.lss (.t rfl) (.t rfl) ?_)))))))))
  refine .nil ?_
  refine .condP (.t rfl) (fun hc45 => ?_) (fun hc45 => ?_)
  · refine .skip ?_
    refine .seq ?_
    refine .block ?_
    refine .region rfl ?_
    refine .p (.move (.t rfl) (.p (.fldW G_api_Algebra.l4 fd32_4 rfl (.t rfl) (.p (.ldF (fun x => x.Boxes) ty30 (.t rfl) (.s (.s (.s .z))) (fun _ => rfl) (.p (.move (.t rfl) (.p (.idx ty56 Tryd.underlying30 (.t rfl) (.t rfl) (by first | omega | (simp; done) | (simp; omega) | (simp at *; omega)) (by first | omega | (simp; done) | (simp; omega) | (simp at *; omega)) (.p (.fldPF G_api_Sealed.l2 (fun x => x.Plain) fd56_2 rfl (fun _ => rfl) (.t rfl) ?_)))))))))))
    refine .p (.ldP ty23 (.t rfl) (.h (.buildSlice (α := (List UInt8)) ty23 Tryd.underlying36 (.cons (.t rfl) .nil) rfl (by decide) fun b55 => .h (.append st36 (.inl ⟨_, Tryd.underlying36⟩) rfl (.s .z) (.own rfl .z) (by first | omega | (simp; done) | (simp; omega) | (simp at *; omega)) (by first | omega | (simp; done) | (simp; omega) | (simp at *; omega)) (fun w56 => .p (.assign (.t rfl) ?_)) rfl))))
    refine .drop ?_
    refine .nil ?_
    refine .region rfl ?_
    refine .p (.move (.t rfl) (.p (.add (.t rfl) (.i rfl) (by first | omega | (simp; done) | (simp; omega) | (simp at *; omega)) (by first | omega | (simp; done) | (simp; omega) | (simp at *; omega)) (.p (.assign (.t rfl) ?_)))))
    refine .nil ?_
    refine ⟨(i + 1, w56, _), .cons rfl (.cons rfl (.cons rfl (.cons rfl (.cons rfl (.nil _))))), rfl, ?_, by dsimp only; omega⟩
    exact ⟨by dsimp only; omega, by simp; omega⟩
  · refine .exit ?_
    refine .seq ?_
    refine .seq ?_
    refine .frzOwn hC .z ?_
    refine .as 12 rfl .z ?_
    refine .region rfl ?_
    refine .p (.assign (.i rfl) ?_)
    refine .nil ?_
    refine .block ?_
    refine .loopR (α := Nat) [(2, _), (10, _), (11, _), (12, _)] (fun j R => (14, .v (j : Int)) :: R) (fun j => [(true, .fz w (.v ls)), (true, .none_), (true, .ob (ptr b11 0) k33), (true, .ob (ptr b10 0) a), (true, .none_)]) (fun j => j ≤ ls.length) (fun j => ls.length - j) (0) (.cons rfl (.cons rfl (.cons rfl (.cons rfl (.nil _))))) ?_ (.cons rfl (.cons rfl (.cons rfl (.cons rfl (.cons rfl (.nil _)))))) (rfl) fun j hF => ?_
    · simp
    refine .seq ?_
    refine .seq ?_
    refine .region rfl ?_
    refine .p (.move (.t rfl) (.p (.move (.t rfl) (.p (.len Tryd.underlying36 (.t rfl) (.p (.lss (.t rfl) (.t rfl) ?_)))))))
    refine .nil ?_
    refine .condP (.t rfl) (fun hc60 => ?_) (fun hc60 => ?_)
    · refine .skip ?_
      refine .seq ?_
      refine .block ?_
      refine .seq ?_
      refine .region rfl ?_
      refine .p (.move (.t rfl) (.p (.call1 hG (Within_c _ _ (by first | omega | (simp; done) | (simp; omega) | (simp at *; omega)) (by first | omega | (simp; done) | (simp; omega) | (simp at *; omega))) (.cons (.t rfl) (.cons (.i rfl) .nil)) (.p (.assign (.t rfl) ?_)))))
      refine .nil ?_
      refine .seq ?_
      refine .seq ?_
      refine .region rfl ?_
      refine .p (.move (.t rfl) (.p (.eqlI (.t rfl) (.i rfl) ?_)))
      refine .nil ?_
      refine .condP (.t rfl) (fun hc66 => ?_) (fun hc66 => ?_)
      · refine .region rfl ?_
        refine .p (.move (.t rfl) (.p (.assign (.t rfl) ?_)))
        refine .nil ?_
        refine .seq ?_
        refine .drawCF [false, false, false, false, false] (by kernel_rfl) 16 [[], [], [], [], [], [(72, 3), (73, 4)], [(74, 5)], [(69, 0), (70, 1), (71, 2), (75, 6)], [(76, 7)], [(68, 8)], [(68, 8)], [(68, 8)], [], [(16, 12), (77, 9)], [(78, 10)], [(79, 11)]] [12, 13] rfl (by kernel_rfl) rfl (by kernel_rfl) (by decide) ?_
        refine ⟨_, fun H => OpP.ldW ty32 (.t rfl) (Hole.app (.s (.s (.s .z)))) rfl, ?_⟩
        refine ⟨_, fun H => OpP.ldW ty28 (.t rfl) (Hole.app (.s (.s .z))) rfl, ?_⟩
        refine ⟨_, fun H => OpP.move (.t rfl) rfl, ?_⟩
        refine ⟨_, fun H => OpP.move (.t rfl) rfl, ?_⟩
        refine ⟨_, fun H => OpP.move (.t rfl) rfl, ?_⟩
        refine ⟨_, fun H => OpP.idx ty23 Tryd.underlying36 (.t rfl) (.t rfl) (by first | omega | (simp; done) | (simp; omega) | (simp at *; omega)) (by first | omega | (simp; done) | (simp; omega) | (simp at *; omega)) rfl, ?_⟩
        refine ⟨_, fun H => OpP.ldP ty23 (.t rfl) rfl, ?_⟩
        refine ⟨_, fun H => OpP.call1 hG (algSeal_c _ _ _ _ (by have := ha.boxes; omega) ha.boxLe) (.cons (.t rfl) (.cons (.t rfl) (.cons (.t rfl) (.cons (.t rfl) .nil)))) rfl, ?_⟩
        refine ⟨_, fun H => OpP.move (.t rfl) rfl, ?_⟩
        refine ⟨_, fun H => OpP.ext3_0 (.t rfl) rfl, ?_⟩
        refine ⟨_, fun H => OpP.ext3_1 (.t rfl) rfl, ?_⟩
        refine ⟨_, fun H => OpP.ext3_2 (.t rfl) rfl, ?_⟩
        refine .inl ?_
        refine .inl ?_
        refine ⟨_, fun H => OpP.assign (.t rfl) rfl, ?_⟩
        refine ⟨_, fun H => OpP.assign (.t rfl) rfl, ?_⟩
        refine ⟨⟨([], fun k => List.getD [(true, .none_), (true, .none_), (true, .none_), (true, .none_), (true, .none_)] k (true, .none_)), rfl⟩, ?_⟩
        refine OpH.alloc ty32 fun b16 => ?_
        refine ⟨⟨([_], fun k => List.getD [(true, .none_), (true, .none_), (true, .none_), (true, .none_), (true, .none_)] k (true, .none_)), rfl⟩, ?_⟩
        refine OpH.stW ty32 (.t rfl) (.t rfl) .z ?_
        refine ⟨⟨([_], fun k => List.getD [(true, .none_), (true, .none_), (true, .none_), (true, .none_), (true, .none_)] k (true, .none_)), rfl⟩, ?_⟩
        show wpB _ _ _ _ _ _ ((18, _) :: (17, _) :: (16, _) :: (79, _) :: (78, _) :: (77, _) :: (68, _) :: (76, _) :: (75, _) :: (74, _) :: (73, _) :: (72, _) :: (71, _) :: (70, _) :: (69, _) :: _) _
        refine .nil ?_
        refine .seq ?_
        refine .drawCF [false, false, false, false, false, false] (by kernel_rfl) 16 [[], [], [], [], [], [(84, 3), (85, 4)], [(86, 5)], [(81, 0), (82, 1), (83, 2), (87, 6)], [(88, 7)], [(80, 8)], [(80, 8)], [(80, 8)], [], [(19, 12), (89, 9)], [(90, 10)], [(91, 11)]] [12, 13] rfl (by kernel_rfl) rfl (by kernel_rfl) (by decide) ?_
        refine ⟨_, fun H => OpP.ldW ty32 (.t rfl) (Hole.app (.s (.s (.s (.s .z))))) rfl, ?_⟩
        refine ⟨_, fun H => OpP.ldW ty28 (.t rfl) (Hole.app (.s (.s (.s .z)))) rfl, ?_⟩
        refine ⟨_, fun H => OpP.move (.t rfl) rfl, ?_⟩
        refine ⟨_, fun H => OpP.move (.t rfl) rfl, ?_⟩
        refine ⟨_, fun H => OpP.move (.t rfl) rfl, ?_⟩
        refine ⟨_, fun H => OpP.idx ty23 Tryd.underlying36 (.t rfl) (.t rfl) (by first | omega | (simp; done) | (simp; omega) | (simp at *; omega)) (by first | omega | (simp; done) | (simp; omega) | (simp at *; omega)) rfl, ?_⟩
        refine ⟨_, fun H => OpP.ldP ty23 (.t rfl) rfl, ?_⟩
        refine ⟨_, fun H => OpP.call1 hG (rSeal_c _ _ _ _ ha.boxLe) (.cons (.t rfl) (.cons (.t rfl) (.cons (.t rfl) (.cons (.t rfl) .nil)))) rfl, ?_⟩
        refine ⟨_, fun H => OpP.move (.t rfl) rfl, ?_⟩
        refine ⟨_, fun H => OpP.ext3_0 (.t rfl) rfl, ?_⟩
        refine ⟨_, fun H => OpP.ext3_1 (.t rfl) rfl, ?_⟩
        refine ⟨_, fun H => OpP.ext3_2 (.t rfl) rfl, ?_⟩
        refine .inl ?_
        refine .inl ?_
        refine ⟨_, fun H => OpP.assign (.t rfl) rfl, ?_⟩
        refine ⟨_, fun H => OpP.assign (.t rfl) rfl, ?_⟩
        refine ⟨⟨([], fun k => List.getD [(true, .none_), (true, .none_), (true, .none_), (true, .none_), (true, .none_), (true, .none_)] k (true, .none_)), rfl⟩, ?_⟩
        refine OpH.alloc ty32 fun b19 => ?_
        refine ⟨⟨([_], fun k => List.getD [(true, .none_), (true, .none_), (true, .none_), (true, .none_), (true, .none_), (true, .none_)] k (true, .none_)), rfl⟩, ?_⟩
        refine OpH.stW ty32 (.t rfl) (.t rfl) .z ?_
        refine ⟨⟨([_], fun k => List.getD [(true, .none_), (true, .none_), (true, .none_), (true, .none_), (true, .none_), (true, .none_)] k (true, .none_)), rfl⟩, ?_⟩
        show wpB _ _ _ _ _ _ ((21, _) :: (20, _) :: (19, _) :: (91, _) :: (90, _) :: (89, _) :: (80, _) :: (88, _) :: (87, _) :: (86, _) :: (85, _) :: (84, _) :: (83, _) :: (82, _) :: (81, _) :: _) _
        refine .nil ?_
        refine .seq ?_
        refine .region rfl ?_
        refine .p (.ldW ty32 (.t rfl) (.s .z) (.p (.ldW ty32 (.t rfl) .z (.p (.call1 hG (sameAlg_c _) (.cons (.t rfl) (.cons (.t rfl) .nil)) (.p (.not (.t rfl) (.p (.move (.t rfl) ?_)))))))))
        refine .go 96 rfl (.t rfl) (fun hg97 => .move (.t rfl) rfl) ?_
        refine .go 96 rfl (.t rfl) (fun hg98 => .move (.t rfl) rfl) ?_
        refine .go 96 rfl (.t rfl) (fun hg99 => .call1 hG (Same_c _ _) (.cons (.o rfl (beq_iff_eq.2 hg99)) (.cons (.o rfl (beq_iff_eq.2 hg99)) .nil)) rfl) ?_
        refine .go 96 rfl (.t rfl) (fun hg100 => .not (.o rfl (beq_iff_eq.2 hg100)) rfl) ?_
        refine .p (.pickOr (.t rfl) (fun hp => (.o rfl (beq_iff_eq.2 hp))) (.p (.move (.t rfl) ?_)))
        refine .go 102 rfl (.t rfl) (fun hg103 => .move (.t rfl) rfl) ?_
        refine .go 102 rfl (.t rfl) (fun hg104 => .move (.t rfl) rfl) ?_
        refine .go 102 rfl (.t rfl) (fun hg105 => .neqI (.o rfl (beq_iff_eq.2 hg105)) (.o rfl (beq_iff_eq.2 hg105)) rfl) ?_
        refine .p (.pickOr (.t rfl) (fun hp => (.o rfl (beq_iff_eq.2 hp))) ?_)
        refine .nil ?_
        refine .cond (.t rfl) (fun hc106 => ?_) (fun hc106 => ?_)
        · refine .seq ?_
          refine .region rfl ?_
          refine .p (.assign .b ?_)
          refine .nil ?_
          refine .ret ?_
          refine ⟨_, .r1 rfl (.tmp rfl), ?_⟩
          exfalso; simp at hc106
        · refine .skip ?_
          refine .drop ?_
          refine .drop ?_
          refine .region rfl ?_
          refine .p (.move (.t rfl) (.p (.add (.t rfl) (.i rfl) (by first | omega | (simp; done) | (simp; omega) | (simp at *; omega)) (by first | omega | (simp; done) | (simp; omega) | (simp at *; omega)) (.p (.assign (.t rfl) ?_)))))
          refine .nil ?_
          refine ⟨j + 1, .cons rfl (.cons rfl (.cons rfl (.cons rfl (.cons rfl (.nil _))))), rfl, ?_, by omega⟩
          omega
      · refine .skip ?_
        refine .seq ?_
        refine .drawCF [false, false, false, false, false] (by kernel_rfl) 16 [[], [], [], [], [], [(72, 3), (73, 4)], [(74, 5)], [(69, 0), (70, 1), (71, 2), (75, 6)], [(76, 7)], [(68, 8)], [(68, 8)], [(68, 8)], [], [(16, 12), (77, 9)], [(78, 10)], [(79, 11)]] [12, 13] rfl (by kernel_rfl) rfl (by kernel_rfl) (by decide) ?_
        refine ⟨_, fun H => OpP.ldW ty32 (.t rfl) (Hole.app (.s (.s (.s .z)))) rfl, ?_⟩
        refine ⟨_, fun H => OpP.ldW ty28 (.t rfl) (Hole.app (.s (.s .z))) rfl, ?_⟩
        refine ⟨_, fun H => OpP.move (.t rfl) rfl, ?_⟩
        refine ⟨_, fun H => OpP.move (.t rfl) rfl, ?_⟩
        refine ⟨_, fun H => OpP.move (.t rfl) rfl, ?_⟩
        refine ⟨_, fun H => OpP.idx ty23 Tryd.underlying36 (.t rfl) (.t rfl) (by first | omega | (simp; done) | (simp; omega) | (simp at *; omega)) (by first | omega | (simp; done) | (simp; omega) | (simp at *; omega)) rfl, ?_⟩
        refine ⟨_, fun H => OpP.ldP ty23 (.t rfl) rfl, ?_⟩
        refine ⟨_, fun H => OpP.call1 hG (algSeal_c _ _ _ _ (by have := ha.boxes; omega) ha.boxLe) (.cons (.t rfl) (.cons (.t rfl) (.cons (.t rfl) (.cons (.t rfl) .nil)))) rfl, ?_⟩
        refine ⟨_, fun H => OpP.move (.t rfl) rfl, ?_⟩
        refine ⟨_, fun H => OpP.ext3_0 (.t rfl) rfl, ?_⟩
        refine ⟨_, fun H => OpP.ext3_1 (.t rfl) rfl, ?_⟩
        refine ⟨_, fun H => OpP.ext3_2 (.t rfl) rfl, ?_⟩
        refine .inl ?_
        refine .inl ?_
        refine ⟨_, fun H => OpP.assign (.t rfl) rfl, ?_⟩
        refine ⟨_, fun H => OpP.assign (.t rfl) rfl, ?_⟩
        refine ⟨⟨([], fun k => List.getD [(true, .none_), (true, .none_), (true, .none_), (true, .none_), (true, .none_)] k (true, .none_)), rfl⟩, ?_⟩
        refine OpH.alloc ty32 fun b16 => ?_
        refine ⟨⟨([_], fun k => List.getD [(true, .none_), (true, .none_), (true, .none_), (true, .none_), (true, .none_)] k (true, .none_)), rfl⟩, ?_⟩
        refine OpH.stW ty32 (.t rfl) (.t rfl) .z ?_
        refine ⟨⟨([_], fun k => List.getD [(true, .none_), (true, .none_), (true, .none_), (true, .none_), (true, .none_)] k (true, .none_)), rfl⟩, ?_⟩
        show wpB _ _ _ _ _ _ ((18, _) :: (17, _) :: (16, _) :: (79, _) :: (78, _) :: (77, _) :: (68, _) :: (76, _) :: (75, _) :: (74, _) :: (73, _) :: (72, _) :: (71, _) :: (70, _) :: (69, _) :: _) _
        refine .nil ?_
        refine .seq ?_
        refine .drawCF [false, false, false, false, false, false] (by kernel_rfl) 16 [[], [], [], [], [], [(84, 3), (85, 4)], [(86, 5)], [(81, 0), (82, 1), (83, 2), (87, 6)], [(88, 7)], [(80, 8)], [(80, 8)], [(80, 8)], [], [(19, 12), (89, 9)], [(90, 10)], [(91, 11)]] [12, 13] rfl (by kernel_rfl) rfl (by kernel_rfl) (by decide) ?_
        refine ⟨_, fun H => OpP.ldW ty32 (.t rfl) (Hole.app (.s (.s (.s (.s .z))))) rfl, ?_⟩
        refine ⟨_, fun H => OpP.ldW ty28 (.t rfl) (Hole.app (.s (.s (.s .z)))) rfl, ?_⟩
        refine ⟨_, fun H => OpP.move (.t rfl) rfl, ?_⟩
        refine ⟨_, fun H => OpP.move (.t rfl) rfl, ?_⟩
        refine ⟨_, fun H => OpP.move (.t rfl) rfl, ?_⟩
        refine ⟨_, fun H => OpP.idx ty23 Tryd.underlying36 (.t rfl) (.t rfl) (by first | omega | (simp; done) | (simp; omega) | (simp at *; omega)) (by first | omega | (simp; done) | (simp; omega) | (simp at *; omega)) rfl, ?_⟩
        refine ⟨_, fun H => OpP.ldP ty23 (.t rfl) rfl, ?_⟩
        refine ⟨_, fun H => OpP.call1 hG (rSeal_c _ _ _ _ ha.boxLe) (.cons (.t rfl) (.cons (.t rfl) (.cons (.t rfl) (.cons (.t rfl) .nil)))) rfl, ?_⟩
        refine ⟨_, fun H => OpP.move (.t rfl) rfl, ?_⟩
        refine ⟨_, fun H => OpP.ext3_0 (.t rfl) rfl, ?_⟩
        refine ⟨_, fun H => OpP.ext3_1 (.t rfl) rfl, ?_⟩
        refine ⟨_, fun H => OpP.ext3_2 (.t rfl) rfl, ?_⟩
        refine .inl ?_
        refine .inl ?_
        refine ⟨_, fun H => OpP.assign (.t rfl) rfl, ?_⟩
        refine ⟨_, fun H => OpP.assign (.t rfl) rfl, ?_⟩
        refine ⟨⟨([], fun k => List.getD [(true, .none_), (true, .none_), (true, .none_), (true, .none_), (true, .none_), (true, .none_)] k (true, .none_)), rfl⟩, ?_⟩
        refine OpH.alloc ty32 fun b19 => ?_
        refine ⟨⟨([_], fun k => List.getD [(true, .none_), (true, .none_), (true, .none_), (true, .none_), (true, .none_), (true, .none_)] k (true, .none_)), rfl⟩, ?_⟩
        refine OpH.stW ty32 (.t rfl) (.t rfl) .z ?_
        refine ⟨⟨([_], fun k => List.getD [(true, .none_), (true, .none_), (true, .none_), (true, .none_), (true, .none_), (true, .none_)] k (true, .none_)), rfl⟩, ?_⟩
        show wpB _ _ _ _ _ _ ((21, _) :: (20, _) :: (19, _) :: (91, _) :: (90, _) :: (89, _) :: (80, _) :: (88, _) :: (87, _) :: (86, _) :: (85, _) :: (84, _) :: (83, _) :: (82, _) :: (81, _) :: _) _
        refine .nil ?_
        refine .seq ?_
        refine .region rfl ?_
        refine .p (.ldW ty32 (.t rfl) (.s .z) (.p (.ldW ty32 (.t rfl) .z (.p (.call1 hG (sameAlg_c _) (.cons (.t rfl) (.cons (.t rfl) .nil)) (.p (.not (.t rfl) (.p (.move (.t rfl) ?_)))))))))
        refine .go 96 rfl (.t rfl) (fun hg97 => .move (.t rfl) rfl) ?_
        refine .go 96 rfl (.t rfl) (fun hg98 => .move (.t rfl) rfl) ?_
        refine .go 96 rfl (.t rfl) (fun hg99 => .call1 hG (Same_c _ _) (.cons (.o rfl (beq_iff_eq.2 hg99)) (.cons (.o rfl (beq_iff_eq.2 hg99)) .nil)) rfl) ?_
        refine .go 96 rfl (.t rfl) (fun hg100 => .not (.o rfl (beq_iff_eq.2 hg100)) rfl) ?_
        refine .p (.pickOr (.t rfl) (fun hp => (.o rfl (beq_iff_eq.2 hp))) (.p (.move (.t rfl) ?_)))
        refine .go 102 rfl (.t rfl) (fun hg103 => .move (.t rfl) rfl) ?_
        refine .go 102 rfl (.t rfl) (fun hg104 => .move (.t rfl) rfl) ?_
        refine .go 102 rfl (.t rfl) (fun hg105 => .neqI (.o rfl (beq_iff_eq.2 hg105)) (.o rfl (beq_iff_eq.2 hg105)) rfl) ?_
        refine .p (.pickOr (.t rfl) (fun hp => (.o rfl (beq_iff_eq.2 hp))) ?_)
        refine .nil ?_
        refine .cond (.t rfl) (fun hc106 => ?_) (fun hc106 => ?_)
        · refine .seq ?_
          refine .region rfl ?_
          refine .p (.assign .b ?_)
          refine .nil ?_
          refine .ret ?_
          refine ⟨_, .r1 rfl (.tmp rfl), ?_⟩
          exfalso; simp at hc106
        · refine .skip ?_
          refine .drop ?_
          refine .drop ?_
          refine .region rfl ?_
          refine .p (.move (.t rfl) (.p (.add (.t rfl) (.i rfl) (by first | omega | (simp; done) | (simp; omega) | (simp at *; omega)) (by first | omega | (simp; done) | (simp; omega) | (simp at *; omega)) (.p (.assign (.t rfl) ?_)))))
          refine .nil ?_
          refine ⟨j + 1, .cons rfl (.cons rfl (.cons rfl (.cons rfl (.cons rfl (.nil _))))), rfl, ?_, by omega⟩
          omega
    · refine .exit ?_
      refine .seq ?_
      refine .region rfl ?_
      refine .p (.call1 hG (awake11_c) .nil (.p (.assign (.t rfl) ?_)))
      refine .nil ?_
      refine .ret ?_
      refine ⟨_, .r1 rfl (.tmp rfl), ?_⟩
      simp
theorem sym98 : ∀ i, i < 8 → ∀ j, j < 8 → symTag 98 ((i + 1 : Nat) : Int) = symTag 98 ((j + 1 : Nat) : Int) → i = j := by decide +kernel
theorem symBox_inj {i j m n : Nat} (hi : i < 8) (hj : j < 8) (h : (symTag 98 ((i + 1 : Nat) : Int)).l ++ List.replicate m (0 : UInt8) = (symTag 98 ((j + 1 : Nat) : Int)).l ++ List.replicate n 0) : i = j :=
  sym98 i hi j hj (Arr.ext (List.append_inj_left h (by rw [symTag_len, symTag_len])))
theorem stream_twice (k : Tag) (n : UInt64) (p : List UInt8) : streamL k n (streamL k n p p.length) (streamL k n p p.length).length = p := by
  rw [streamL_all, streamL_all]
  apply List.ext_getElem (by simp)
  intro i h1 h2
  simp [UInt8.xor_assoc]
theorem head_len (k : Tag) (n : Int) (p : List UInt8) : (sealHead k n p).length = p.length + 8 := by simp [sealHead, be64_length, streamL_length]; omega
theorem real_take (k : Tag) (n : Int) (p : List UInt8) : (realBox k n p).take ((realBox k n p).length - 32) = sealHead k n p := by
  rw [realBox_length]
  unfold realBox
  rw [List.take_left' (by rw [head_len]; omega)]
theorem real_drop (k : Tag) (n : Int) (p : List UInt8) : (realBox k n p).drop ((realBox k n p).length - 32) = (hmac k.l (boxStr.l ++ sealHead k n p)).l := by
  rw [realBox_length]
  unfold realBox
  rw [List.drop_left' (by rw [head_len]; omega)]
theorem real_body (k : Tag) (n : Int) (p : List UInt8) : openBody k (realBox k n p) = p := by
  unfold openBody
  rw [real_take]
  have h1 : (sealHead k n p).take 8 = be64 (UInt64.ofInt n) 8 := by unfold sealHead; rw [List.take_left' (be64_length _ _)]
  have h2 : (sealHead k n p).drop 8 = streamL k (UInt64.ofInt n) p p.length := by unfold sealHead; rw [List.drop_left' (be64_length _ _)]
  rw [h1, h2, xorL_stream, stream_twice]
theorem AlgOk.opens {b : Alg} {m : Nat} (hb : AlgOk b m) (hm : m ≤ 7) {i : Nat} (h : i < b.Boxes.length) : algOpen b b.Boxes[i].Key b.Boxes[i].Box = (b.Boxes[i].Plain, 0) ∧ b.Boxes[i].Box.length = b.Boxes[i].Plain.length + 40 := by
  have hl := hb.boxes
  obtain ⟨h1, h2, h3, h4⟩ := hb.box i h
  cases hf : b.Free with
  | true =>
    rw [hf, if_pos rfl] at h4
    refine ⟨?_, by rw [h4, List.length_append, symTag_len, List.length_replicate]; omega⟩
    cases hq : b.Boxes.find? (openEq b.Boxes[i].Key b.Boxes[i].Box) with
    | none =>
      have := List.find?_eq_none.1 hq b.Boxes[i] (List.getElem_mem h)
      simp [openEq] at this
    | some y =>
      rw [algOpen_found hf hq]
      have hy := List.find?_some hq
      obtain ⟨j, hj, rfl⟩ := List.getElem_of_mem (List.mem_of_find?_eq_some hq)
      obtain ⟨_, _, _, g4⟩ := hb.box j hj
      rw [hf, if_pos rfl] at g4
      simp only [openEq, Bool.and_eq_true, decide_eq_true_eq] at hy
      have e := hy.2
      rw [g4, h4] at e
      obtain rfl := symBox_inj (by omega) (by omega) e
      rfl
  | false =>
    rw [hf, if_neg (by decide)] at h4
    have hlen : b.Boxes[i].Box.length = b.Boxes[i].Plain.length + 40 := by rw [h4, realBox_length]
    refine ⟨?_, hlen⟩
    rw [algOpen_ok hf (by omega)]
    · rw [h4, real_body]
    · rw [h4, real_take, real_drop]
theorem AlgOk.sealed {a : Alg} {m : Nat} (ha : AlgOk a m) (hm : m ≤ 6) {k : Tag} {n : Int} {p : List UInt8} (hn0 : 0 ≤ n) (hn1 : n ≤ 281474976710656) (hp : p.length ≤ 256) :
    ∃ b x, algSeal a k n p = (b, x, 0) ∧ AlgOk b (m + 1) ∧ ∃ i, ∃ h : i < b.Boxes.length, b.Boxes[i] = ⟨k, n, p, x⟩ := by
  have hok := ha.boxed (by omega) (k := k) hn0 hn1 hp
  have hr : (decide (n < 0) || decide (281474976710656 < n)) = false := by simp; omega
  have hl := ha.boxes
  cases hf : a.Boxes.find? (sealEq k n p) with
  | some y =>
    have e := algSeal_found hr (by omega) hf
    rw [e] at hok
    refine ⟨a, y.Box, e, hok, ?_⟩
    obtain ⟨i, hi, rfl⟩ := List.getElem_of_mem (List.mem_of_find?_eq_some hf)
    have hy := List.find?_some hf
    simp only [sealEq, Bool.and_eq_true, decide_eq_true_eq] at hy
    refine ⟨i, hi, ?_⟩
    obtain ⟨⟨rfl, rfl⟩, rfl⟩ := hy
    rfl
  | none =>
    have e := algSeal_new hr (by omega) hf (by omega)
    rw [e] at hok
    exact ⟨_, _, e, hok, a.Boxes.length, by simp, by simp⟩
theorem AlgOk.back {a : Alg} {m : Nat} (ha : AlgOk a m) (hm : m ≤ 6) (k : Tag) {n : Int} {p : List UInt8} (hn0 : 0 ≤ n) (hn1 : n ≤ 281474976710656) (hp : p.length ≤ 256) :
    ∃ b x, algSeal a k n p = (b, x, 0) ∧ AlgOk b (m + 1) ∧ algOpen b k x = (p, 0) ∧ x.length = p.length + 40 := by
  obtain ⟨b, x, h1, h2, i, hi, h3⟩ := ha.sealed hm (k := k) hn0 hn1 hp
  have h4 := h2.opens (by omega) hi
  rw [h3] at h4
  exact ⟨b, x, h1, h2, h4⟩
theorem BoxBack_c (deck : List Int) (plain : List UInt8) (nonce : Int) : FunA gl Tryd.prog 11 [.v deck, .v plain, .v nonce] (fun r => r = .v true) := by
  refine FunA.intro Tryd.func11 rfl (by kernel_rfl) 66 rfl rfl _ rfl fun C hC hG => ?_
  have hp5 : (plain.take (min (plain.length : Int) 256).toNat).length ≤ 256 := by simp; omega
  refine .seq ?_
  refine .region rfl ?_
  refine .p (.assign .b ?_)
  refine .nil ?_
  refine .seq ?_
  refine .region rfl ?_
  refine .p (.move (.t rfl) (.p (.move (.t rfl) (.p (.len Tryd.underlying23 (.t rfl) (.p (.minI (.t rfl) (.i rfl) (.p (.slHi ty5 Tryd.underlying23 (.t rfl) (.t rfl) (by first | omega | (simp; done) | (simp; omega) | (simp at *; omega)) (by first | omega | (simp; done) | (simp; omega) | (simp at *; omega)) (.p (.assign (.t rfl) ?_)))))))))))
  refine .nil ?_
  refine .seq ?_
  refine .region rfl ?_
  refine .p (.move (.t rfl) (.h (.call0 hG (deckNew_c _) (.cons (.t rfl) .nil) fun r21 Hs21 hr21 => ?_)))
  obtain ⟨b21, rfl, rfl⟩ := hr21
  show wpB _ _ _ _ _ _ _ ((true, _) :: _)
  have hd : DeckOk (⟨deck, 0⟩ : G_macaroonmade_Deck) := Int.le_refl 0
  refine .p (.assign (.t rfl) ?_)
  refine .nil ?_
  refine .seq ?_
  refine .region rfl ?_
  refine .p (.move (.t rfl) (.h (.callM hG (Algebra_deck_c _ _ (by assumption)) .z (.cons (.t rfl) .nil) (by rintro _ _ ⟨_, _, _, _, _, rfl⟩; exact ⟨_, rfl⟩) fun r23 B23 hr23 => ?_)))
  obtain ⟨a, d23, ha, hd23, rfl, hB⟩ := hr23
  cases hB
  refine .h (.alloc ty32 fun b8 => .n (.stW ty32 (.t rfl) (.t rfl) .z ?_))
  refine .nil ?_
  refine .seq ?_
  refine .region rfl ?_
  refine .p (.move (.t rfl) (.p (.ldW ty32 (.t rfl) .z (.h (.callM hG (Known_deck_c _ _ _ (by assumption) (by have := ha.macs; omega) (by have := ha.boxes; omega)) (.s .z) (.cons (.t rfl) (.cons (.t rfl) .nil)) (by rintro _ _ ⟨_, _, _, _, rfl⟩; exact ⟨_, rfl⟩) fun r26 B26 hr26 => ?_)))))
  obtain ⟨k26, d26, hd26, rfl, hB⟩ := hr26
  cases hB
  refine .h (.alloc ty28 fun b9 => .n (.stW ty28 (.t rfl) (.t rfl) .z ?_))
  refine .nil ?_
  refine .seq ?_
  refine .drawCF [false, false, false] (by kernel_rfl) 14 [[], [], [], [(30, 2)], [], [(28, 0), (29, 1), (31, 3), (32, 4)], [(33, 5)], [(27, 6)], [(27, 6)], [(27, 6)], [], [(10, 10), (34, 7)], [(35, 8)], [(36, 9)]] [10, 11] rfl (by kernel_rfl) rfl (by kernel_rfl) (by decide) ?_
  refine ⟨_, fun H => OpP.ldW ty32 (.t rfl) (Hole.app (.s .z)) rfl, ?_⟩
  refine ⟨_, fun H => OpP.ldW ty28 (.t rfl) (Hole.app .z) rfl, ?_⟩
  refine ⟨_, fun H => OpP.move (.t rfl) rfl, ?_⟩
  refine ⟨_, fun H => OpP.call1 hG (Within_c _ _ (by first | omega | (simp; done) | (simp; omega) | (simp at *; omega)) (by first | omega | (simp; done) | (simp; omega) | (simp at *; omega))) (.cons (.t rfl) (.cons (.i rfl) .nil)) rfl, ?_⟩
  refine ⟨_, fun H => OpP.move (.t rfl) rfl, ?_⟩
  refine ⟨_, fun H => OpP.call1 hG (algSeal_c _ _ _ _ (by have := ha.boxes; omega) ha.boxLe) (.cons (.t rfl) (.cons (.t rfl) (.cons (.t rfl) (.cons (.t rfl) .nil)))) rfl, ?_⟩
  refine ⟨_, fun H => OpP.move (.t rfl) rfl, ?_⟩
  refine ⟨_, fun H => OpP.ext3_0 (.t rfl) rfl, ?_⟩
  refine ⟨_, fun H => OpP.ext3_1 (.t rfl) rfl, ?_⟩
  refine ⟨_, fun H => OpP.ext3_2 (.t rfl) rfl, ?_⟩
  refine .inl ?_
  refine .inl ?_
  refine ⟨_, fun H => OpP.assign (.t rfl) rfl, ?_⟩
  refine ⟨_, fun H => OpP.assign (.t rfl) rfl, ?_⟩
  refine ⟨⟨([], fun k => List.getD [(true, .none_), (true, .none_), (true, .none_)] k (true, .none_)), rfl⟩, ?_⟩
  refine OpH.alloc ty32 fun b10 => ?_
  refine ⟨⟨([_], fun k => List.getD [(true, .none_), (true, .none_), (true, .none_)] k (true, .none_)), rfl⟩, ?_⟩
  refine OpH.stW ty32 (.t rfl) (.t rfl) .z ?_
  refine ⟨⟨([_], fun k => List.getD [(true, .none_), (true, .none_), (true, .none_)] k (true, .none_)), rfl⟩, ?_⟩
  show wpB _ _ _ _ _ _ ((12, _) :: (11, _) :: (10, _) :: (36, _) :: (35, _) :: (34, _) :: (27, _) :: (33, _) :: (32, _) :: (31, _) :: (30, _) :: (29, _) :: (28, _) :: _) _
  refine .nil ?_
  refine .seq ?_
  refine .region rfl ?_
  refine .p (.ldW ty32 (.t rfl) .z (.p (.ldW ty28 (.t rfl) (.s .z) (.p (.move (.t rfl) (.p (.call1 hG (boxOpen_c _ _ _ (ha.boxed (by decide) (by omega) (by omega) hp5).plainLe) (.cons (.t rfl) (.cons (.t rfl) (.cons (.t rfl) .nil))) (.p (.move (.t rfl) (.p (.ext2_0 (.t rfl) ?_)))))))))))
  refine .p (.ext2_1 (.t rfl) (.p (.assign (.t rfl) (.p (.assign (.t rfl) ?_)))))
  refine .nil ?_
  refine .seq ?_
  refine .region rfl ?_
  refine .p (.move (.t rfl) (.p (.eqlI (.t rfl) (.i rfl) (.p (.move (.t rfl) ?_)))))
  refine .go 46 rfl (.t rfl) (fun hg47 => .move (.t rfl) rfl) ?_
  refine .go 46 rfl (.t rfl) (fun hg48 => .eqlI (.o rfl (beq_iff_eq.2 hg48)) (.i rfl) rfl) ?_
  refine .p (.pickAnd (.t rfl) (fun hp => (.o rfl (beq_iff_eq.2 hp))) (.p (.move (.t rfl) ?_)))
  refine .go 50 rfl (.t rfl) (fun hg51 => .move (.t rfl) rfl) ?_
  refine .go 50 rfl (.t rfl) (fun hg52 => .move (.t rfl) rfl) ?_
  refine .go 50 rfl (.t rfl) (fun hg53 => .call1 hG (Same_c _ _) (.cons (.o rfl (beq_iff_eq.2 hg53)) (.cons (.o rfl (beq_iff_eq.2 hg53)) .nil)) rfl) ?_
  refine .p (.pickAnd (.t rfl) (fun hp => (.o rfl (beq_iff_eq.2 hp))) (.p (.move (.t rfl) ?_)))
  refine .go 55 rfl (.t rfl) (fun hg56 => .move (.t rfl) rfl) ?_
  refine .go 55 rfl (.t rfl) (fun hg57 => .len Tryd.underlying23 (.o rfl (beq_iff_eq.2 hg57)) rfl) ?_
  refine .go 55 rfl (.t rfl) (fun hg58 => .move (.t rfl) rfl) ?_
  refine .go 55 rfl (.t rfl) (fun hg59 => .len Tryd.underlying23 (.o rfl (beq_iff_eq.2 hg59)) rfl) ?_
  refine .go 55 rfl (.t rfl) (fun hg60 => .add (.o rfl (beq_iff_eq.2 hg60)) (.i rfl) (by first | omega | (simp; omega) | (have := hg60; simp at this; omega)) (by first | omega | (simp; omega) | (have := hg60; simp at this; omega)) rfl) ?_
  refine .go 55 rfl (.t rfl) (fun hg61 => .eqlI (.o rfl (beq_iff_eq.2 hg61)) (.o rfl (beq_iff_eq.2 hg61)) rfl) ?_
  refine .p (.pickAnd (.t rfl) (fun hp => (.o rfl (beq_iff_eq.2 hp))) (.p (.move (.t rfl) ?_)))
  refine .go 63 rfl (.t rfl) (fun hg64 => .call1 hG (awake11_c) .nil rfl) ?_
  refine .p (.pickAnd (.t rfl) (fun hp => (.o rfl (beq_iff_eq.2 hp))) (.p (.assign (.t rfl) ?_)))
  refine .nil ?_
  refine .ret ?_
  refine ⟨_, .r1 rfl (.tmp rfl), ?_⟩
  obtain ⟨b, x, e1, hb, e2, e3⟩ := ha.back (by decide) k26 (n := nonce % 281474976710657) (by omega) (by omega) hp5
  rw [e1]
  simp only []
  rw [e2, e3]
  simp
theorem BoxOpen_c (deck : List Int) (raw plain : List UInt8) (at_ : Int) (xx : UInt8) (cut : Int) : FunA gl Tryd.prog 10 [.v deck, .v raw, .v plain, .v at_, .v xx, .v cut] (fun r => r = .v true) := by
  refine FunA.intro Tryd.func10 rfl (by kernel_rfl) 129 rfl rfl _ rfl fun C hC hG => ?_
  have hp1 : (raw.take (min (raw.length : Int) 400).toNat).length ≤ 400 := by simp; omega
  have hp5 : (plain.take (min (plain.length : Int) 100).toNat).length ≤ 100 := by simp; omega
  refine .seq ?_
  refine .region rfl ?_
  refine .p (.assign .b ?_)
  refine .nil ?_
  refine .seq ?_
  refine .draw (by kernel_rfl) 12 [[], [], [(28, 1)], [(29, 2)], [(27, 0), (30, 3)], [], [], [(33, 6)], [(34, 7)], [(32, 5), (35, 8)], [(31, 4)], [(36, 9)]] rfl (by kernel_rfl) rfl ?_
  refine ⟨_, OpP.move (.t rfl) rfl, ?_⟩
  refine ⟨_, OpP.move (.t rfl) rfl, ?_⟩
  refine ⟨_, OpP.len Tryd.underlying23 (.t rfl) rfl, ?_⟩
  refine ⟨_, OpP.minI (.t rfl) (.i rfl) rfl, ?_⟩
  refine ⟨_, OpP.slHi ty5 Tryd.underlying23 (.t rfl) (.t rfl) (by first | omega | (simp; done) | (simp; omega) | (simp at *; omega)) (by first | omega | (simp; done) | (simp; omega) | (simp at *; omega)) rfl, ?_⟩
  refine ⟨_, OpP.move (.t rfl) rfl, ?_⟩
  refine ⟨_, OpP.move (.t rfl) rfl, ?_⟩
  refine ⟨_, OpP.len Tryd.underlying23 (.t rfl) rfl, ?_⟩
  refine ⟨_, OpP.minI (.t rfl) (.i rfl) rfl, ?_⟩
  refine ⟨_, OpP.slHi ty5 Tryd.underlying23 (.t rfl) (.t rfl) (by first | omega | (simp; done) | (simp; omega) | (simp at *; omega)) (by first | omega | (simp; done) | (simp; omega) | (simp at *; omega)) rfl, ?_⟩
  refine ⟨_, OpP.assign (.t rfl) rfl, ?_⟩
  refine ⟨_, OpP.assign (.t rfl) rfl, ?_⟩
  show wpB _ _ _ _ _ _ ((2, _) :: (1, _) :: (36, _) :: (35, _) :: (34, _) :: (33, _) :: (32, _) :: (31, _) :: (30, _) :: (29, _) :: (28, _) :: (27, _) :: _) _
  refine .nil ?_
  refine .seq ?_
  refine .region rfl ?_
  refine .p (.move (.t rfl) (.h (.call0 hG (deckNew_c _) (.cons (.t rfl) .nil) fun r38 Hs38 hr38 => ?_)))
  obtain ⟨b38, rfl, rfl⟩ := hr38
  show wpB _ _ _ _ _ _ _ ((true, _) :: _)
  have hd : DeckOk (⟨deck, 0⟩ : G_macaroonmade_Deck) := Int.le_refl 0
  refine .p (.assign (.t rfl) ?_)
  refine .nil ?_
  refine .seq ?_
  refine .region rfl ?_
  refine .p (.move (.t rfl) (.h (.callM hG (Algebra_deck_c _ _ (by assumption)) .z (.cons (.t rfl) .nil) (by rintro _ _ ⟨_, _, _, _, _, rfl⟩; exact ⟨_, rfl⟩) fun r40 B40 hr40 => ?_)))
  obtain ⟨a, d40, ha, hd40, rfl, hB⟩ := hr40
  cases hB
  refine .h (.alloc ty32 fun b14 => .n (.stW ty32 (.t rfl) (.t rfl) .z ?_))
  refine .nil ?_
  refine .seq ?_
  refine .region rfl ?_
  refine .p (.move (.t rfl) (.p (.ldW ty32 (.t rfl) .z (.h (.callM hG (Known_deck_c _ _ _ (by assumption) (by have := ha.macs; omega) (by have := ha.boxes; omega)) (.s .z) (.cons (.t rfl) (.cons (.t rfl) .nil)) (by rintro _ _ ⟨_, _, _, _, rfl⟩; exact ⟨_, rfl⟩) fun r43 B43 hr43 => ?_)))))
  obtain ⟨k43, d43, hd43, rfl, hB⟩ := hr43
  cases hB
  refine .h (.alloc ty28 fun b15 => .n (.stW ty28 (.t rfl) (.t rfl) .z ?_))
  refine .nil ?_
  refine .seq ?_
  refine .drawZ [[false, false, false], [false, false, true], [false, true, true]] [[false, false, true], [false, false, true], [false, false, false], [], [false, false, true], [false, false, true], [false, false, true], [false, false, true], [false, true, true], [false, true, true], [], [false, true, true], [false, true, true]] [[], [5, 6, 7, 8, 9, 11, 12], []] [] 2 (by kernel_rfl) 13 [[], [], [], [(47, 2)], [], [(45, 0), (46, 1), (48, 3), (49, 4)], [(50, 5)], [(44, 6)], [(44, 6)], [(44, 6)], [(51, 7)], [(52, 8)], [(53, 9)]] [3, 10] rfl (by kernel_rfl) rfl (by kernel_rfl) rfl (by decide) (by simp) (fun p hp => by cases hp) (by kernel_rfl) rfl ?_
  refine ⟨_, fun H => OpP.ldW ty32 (.t rfl) (Hole.app (.s .z)) rfl, ?_⟩
  refine ⟨_, fun H => OpP.ldW ty28 (.t rfl) (Hole.app .z) rfl, ?_⟩
  refine ⟨_, fun H => OpP.move (.t rfl) rfl, ?_⟩
  refine .inl ?_
  refine ⟨_, fun H => OpP.move (.t rfl) rfl, ?_⟩
  refine .inl ?_
  refine .inl ?_
  refine .inl ?_
  refine .inl ?_
  refine .inl ?_
  refine .inl ?_
  refine .inl ?_
  refine .inl ?_
  refine ⟨rfl, ?_⟩
  refine ⟨⟨fun k => List.getD [(true, .none_), (true, .none_), (true, .none_)] k (true, .none_), rfl⟩, fun Ys5 => ?_⟩
  refine OpH.callM hG (Next_e _ _ _ (by assumption) (by first | omega | (simp; done) | (simp; omega) | (simp at *; omega)) (by first | omega | (simp; done) | (simp; omega) | (simp at *; omega))) (Hole.app (Hole.app (.s (.s .z)))) (.cons (.t rfl) (.cons (.i rfl) .nil)) (by rintro _ _ ⟨_, _, _, _, _, _, rfl⟩; exact ⟨_, rfl⟩) fun r48 B48 hr48 => ?_
  obtain ⟨v48, d48, h048, h148, hd48, rfl, hB⟩ := hr48
  cases hB
  refine ⟨[], _, rfl, ?_⟩
  refine ⟨_, fun H => OpP.call1 hG (rSeal_c _ _ _ _ ha.boxLe) (.cons (.t rfl) (.cons (.t rfl) (.cons (.t rfl) (.cons (.t rfl) .nil)))) rfl, ?_⟩
  refine ⟨_, fun H => OpP.move (.t rfl) rfl, ?_⟩
  refine ⟨_, fun H => OpP.ext3_0 (.t rfl) rfl, ?_⟩
  refine ⟨_, fun H => OpP.ext3_1 (.t rfl) rfl, ?_⟩
  refine ⟨_, fun H => OpP.ext3_2 (.t rfl) rfl, ?_⟩
  refine ⟨_, fun H => OpP.assign (.t rfl) rfl, ?_⟩
  refine ⟨_, fun H => OpP.assign (.t rfl) rfl, ?_⟩
  refine ⟨⟨fun k => List.getD [(true, .none_), (true, .none_), _] k (true, .none_), rfl⟩, fun Ys5 => ?_⟩
  refine OpH.stW ty32 (.t rfl) (.t rfl) (Hole.app (Hole.app (.s .z))) ?_
  refine ⟨[], _, rfl, ?_⟩
  refine ⟨⟨fun k => List.getD [(true, .none_), _, _] k (true, .none_), rfl⟩, fun ws5 => ?_⟩
  refine ⟨⟨fun k => List.getD [(true, .none_), _, _] k (true, .none_), rfl⟩, fun _ => ?_⟩
  show wpB _ _ _ _ _ _ ((17, _) :: (16, _) :: (53, _) :: (52, _) :: (51, _) :: (44, _) :: (50, _) :: (49, _) :: (48, _) :: (47, _) :: (46, _) :: (45, _) :: _) _
  have hb5 := ha.boxed (by decide) (k := k43) (c := v48) (p := plain.take (min (plain.length : Int) 100).toNat) (by omega) (by omega) (by omega)
  have hx5 : (algSeal a k43 v48 (plain.take (min (plain.length : Int) 100).toNat)).2.1.length = (plain.take (min (plain.length : Int) 100).toNat).length + 40 := by obtain ⟨b, x, e1, _, _, e3⟩ := ha.back (by decide) k43 (n := v48) (p := plain.take (min (plain.length : Int) 100).toNat) (by omega) (by omega) (by omega); rw [e1]; exact e3
  have hme : ∀ z : Int, 0 ≤ z % ((algSeal a k43 v48 (plain.take (min (plain.length : Int) 100).toNat)).2.1.length : Int) ∧ z % ((algSeal a k43 v48 (plain.take (min (plain.length : Int) 100).toNat)).2.1.length : Int) < ((algSeal a k43 v48 (plain.take (min (plain.length : Int) 100).toNat)).2.1.length : Int) := fun z => ⟨Int.emod_nonneg _ (by omega), Int.emod_lt_of_pos _ (by omega)⟩
  have hma := hme at_
  have hmc := hme cut
  refine .nil ?_
  refine .seq ?_
  refine .region rfl ?_
  refine .h (.buildSlice (α := UInt8) ty5 Tryd.underlying23 .nil rfl (by decide) fun b54 => .p (.move (.t rfl) (.h (.append st23 (.inl ⟨_, Tryd.underlying23⟩) rfl .z (.v (.t rfl)) (by first | omega | (simp; done) | (simp; omega) | (simp at *; omega)) (by first | omega | (simp; done) | (simp; omega) | (simp at *; omega)) (fun w56 => .p (.assign (.t rfl) ?_)) rfl))))
  refine .nil ?_
  refine .seq ?_
  refine .region rfl ?_
  refine .p (.move (.t rfl) (.p (.move (.t rfl) (.p (.move (.t rfl) (.p (.lenOwn Tryd.underlying23 rfl .z (.p (.call1 hG (Within_c _ _ (by first | omega | (simp; done) | (simp; omega) | (simp at *; omega)) (by first | omega | (simp; done) | (simp; omega) | (simp at *; omega))) (.cons (.t rfl) (.cons (.t rfl) .nil)) (.p (.idxOwn ty5 Tryd.underlying23 rfl .z (.t rfl) (by first | omega | (simp; done) | (simp; omega) | (simp at *; omega)) (by first | omega | (simp; done) | (simp; omega) | (simp at *; omega)) ?_)))))))))))
  refine .p (.ldEW ty5 (.t rfl) .z (by first | omega | (simp; done) | (simp; omega) | (simp at *; omega)) (.p (.move (.t rfl) (.p (.xor8 (.t rfl) (.t rfl) (.p (.idxOwn ty5 Tryd.underlying23 rfl .z (.t rfl) (by first | omega | (simp; done) | (simp; omega) | (simp at *; omega)) (by first | omega | (simp; done) | (simp; omega) | (simp at *; omega)) (.n (.stEW ty5 (.t rfl) (.t rfl) .z (by first | omega | (simp; done) | (simp; omega) | (simp at *; omega)) ?_)))))))))
  refine .nil ?_
  refine .seq ?_
  refine .frzOwn hC .z ?_
  refine .as 18 rfl .z ?_
  refine .drawC (by kernel_rfl) 17 [[], [], [], [], [], [], [(72, 5)], [(71, 4), (73, 6)], [(70, 3), (74, 7)], [], [], [(76, 9), (77, 10)], [], [(79, 12)], [(78, 11), (80, 13)], [(67, 0), (68, 1), (69, 2), (75, 8), (81, 14)], [(82, 15)]] [9, 11, 14, 15, 16] rfl (by kernel_rfl) rfl (by kernel_rfl) (by decide) ?_
  refine ⟨_, fun H => OpP.move (.t rfl) rfl, ?_⟩
  refine ⟨_, fun H => OpP.move (.t rfl) rfl, ?_⟩
  refine ⟨_, fun H => OpP.move (.t rfl) rfl, ?_⟩
  refine ⟨_, fun H => OpP.move (.t rfl) rfl, ?_⟩
  refine ⟨_, fun H => OpP.move (.t rfl) rfl, ?_⟩
  refine ⟨_, fun H => OpP.move (.t rfl) rfl, ?_⟩
  refine ⟨_, fun H => OpP.len Tryd.underlying23 (.t rfl) rfl, ?_⟩
  refine ⟨_, fun H => OpP.call1 hG (Within_c _ _ (by first | omega | (simp; done) | (simp; omega) | (simp at *; omega)) (by first | omega | (simp; done) | (simp; omega) | (simp at *; omega))) (.cons (.t rfl) (.cons (.t rfl) .nil)) rfl, ?_⟩
  refine ⟨_, fun H => OpP.slHi ty5 Tryd.underlying23 (.t rfl) (.t rfl) (by first | omega | (simp; done) | (simp; omega) | (simp at *; omega)) (by first | omega | (simp; done) | (simp; omega) | (simp at *; omega)) rfl, ?_⟩
  refine .inl ?_
  refine ⟨_, fun H => OpP.move (.t rfl) rfl, ?_⟩
  refine .inl ?_
  refine ⟨_, fun H => OpP.move (.t rfl) rfl, ?_⟩
  refine ⟨_, fun H => OpP.buildSliceF (α := UInt8) ty5 Tryd.underlying23 (.cons (.t rfl) .nil) rfl (by decide) rfl, ?_⟩
  refine .inl ?_
  refine .inl ?_
  refine .inl ?_
  refine OpH.buildSlice (α := UInt8) ty5 Tryd.underlying23 .nil rfl (by decide) fun b76 => ?_
  refine OpH.append st23 (.inl ⟨_, Tryd.underlying23⟩) rfl .z (.v (.t rfl)) (by first | omega | (simp; done) | (simp; omega) | (simp at *; omega)) (by first | omega | (simp; done) | (simp; omega) | (simp at *; omega)) (fun w78 => ?_) rfl
  refine OpH.append st23 (.inl ⟨_, Tryd.underlying23⟩) rfl .z (.v (.c rfl)) (by first | omega | (simp; done) | (simp; omega) | (simp at *; omega)) (by first | omega | (simp; done) | (simp; omega) | (simp at *; omega)) (fun w81 => ?_) rfl
  refine OpH.frzOwn hC .z (OpH.as 81 rfl .z (OpH.buildSlice (α := (List UInt8)) ty23 Tryd.underlying36 (.cons (.t rfl) (.cons (.t rfl) (.cons (.t rfl) (.cons (.t rfl) (.cons (.t rfl) .nil))))) rfl (by decide) fun b82 => ?_))
  refine OpH.ofP (OpP.assign (.t rfl) ?_)
  show wpB _ _ _ _ _ _ ((19, _) :: (82, _) :: (81, _) :: (80, _) :: (79, _) :: (78, _) :: (77, _) :: (76, _) :: (75, _) :: (74, _) :: (73, _) :: (72, _) :: (71, _) :: (70, _) :: (69, _) :: (68, _) :: (67, _) :: _) _
  refine .nil ?_
  refine .seq ?_
  refine .seq ?_
  refine .frzOwn hC .z ?_
  refine .as 19 rfl .z ?_
  refine .forget .z ?_
  refine .forget (.s .z) ?_
  refine .forget (.s (.s .z)) ?_
  refine .region rfl ?_
  refine .p (.assign (.i rfl) ?_)
  refine .nil ?_
  refine .block ?_
  refine .loopR (α := Nat × G_macaroonmade_Deck) [(13, _), (14, _), (15, _), (19, _)] (fun x R => (20, .v (x.1 : Int)) :: R) (fun x => [(true, .none_), (true, .none_), (true, .none_), (true, .ob (ptr b15 0) k43), (true, .ob (ptr b14 0) (algSeal a k43 v48 (plain.take (min (plain.length : Int) 100).toNat)).1), (true, .ob (ptr b38 0) x.2)]) (fun x => x.1 ≤ 5 ∧ DeckOk x.2) (fun x => 5 - x.1) ((0, _)) (.cons rfl (.cons rfl (.cons rfl (.cons rfl (.nil _))))) ?_ (.cons rfl (.cons rfl (.cons rfl (.cons rfl (.cons rfl (.nil _)))))) (rfl) fun x hF => ?_
  · exact ⟨Nat.zero_le _, by assumption⟩
  obtain ⟨i, d⟩ := x
  obtain ⟨h1, hd0⟩ := hF
  dsimp only at h1 hd0 ⊢
  refine .seq ?_
  refine .seq ?_
  refine .region rfl ?_
  refine .p (.move (.t rfl) (.p (.move (.t rfl) (.p (.len Tryd.underlying36 (.t rfl) (.p (.lss (.t rfl) (.t rfl) ?_)))))))
  refine .nil ?_
  refine .condP (.t rfl) (fun hc86 => ?_) (fun hc86 => ?_)
  · refine .skip ?_
    refine .seq ?_
    refine .block ?_
    refine .seq ?_
    refine .region rfl ?_
    refine .p (.assign (.i rfl) ?_)
    refine .nil ?_
    refine .block ?_
    refine .loopR (α := Nat × G_macaroonmade_Deck) [(13, _), (14, _), (15, _), (19, _), (20, _)] (fun y R => (21, .v (y.1 : Int)) :: R) (fun y => [(true, .none_), (true, .none_), (true, .none_), (true, .ob (ptr b15 0) k43), (true, .ob (ptr b14 0) (algSeal a k43 v48 (plain.take (min (plain.length : Int) 100).toNat)).1), (true, .ob (ptr b38 0) y.2)]) (fun y => y.1 ≤ 2 ∧ DeckOk y.2) (fun y => 2 - y.1) ((0, d)) (.cons rfl (.cons rfl (.cons rfl (.cons rfl (.cons rfl (.nil _)))))) ?_ (.cons rfl (.cons rfl (.cons rfl (.cons rfl (.cons rfl (.cons rfl (.nil _))))))) (rfl) fun y hF => ?_
    · exact ⟨Nat.zero_le _, hd0⟩
    obtain ⟨j, e⟩ := y
    obtain ⟨h2, hde⟩ := hF
    dsimp only at h2 hde ⊢
    refine .seq ?_
    refine .seq ?_
    refine .region rfl ?_
    refine .p (.move (.t rfl) (.p (.lss (.t rfl) (.i rfl) ?_)))
    refine .nil ?_
    refine .condP (.t rfl) (fun hc90 => ?_) (fun hc90 => ?_)
    · refine .skip ?_
      refine .seq ?_
      refine .block ?_
      refine .seq ?_
      refine .region rfl ?_
      refine .p (.ldW ty28 (.t rfl) (.s (.s (.s .z))) (.h (.alloc ty28 fun b22 => .n (.stW ty28 (.t rfl) (.t rfl) .z ?_))))
      refine .nil ?_
      refine .seq ?_
      refine .seq ?_
      refine .region rfl ?_
      refine .p (.move (.t rfl) (.p (.eqlI (.t rfl) (.i rfl) ?_)))
      refine .nil ?_
      refine .condP (.t rfl) (fun hc95 => ?_) (fun hc95 => ?_)
      · refine .region rfl ?_
        refine .p (.move (.t rfl) (.p (.ldW ty32 (.t rfl) (.s (.s (.s (.s (.s .z))))) (.h (.callM hG (Known_deck_c _ _ _ (by assumption) (by have := hb5.macs; omega) (by have := hb5.boxes; omega)) (.s (.s (.s (.s (.s (.s .z)))))) (.cons (.t rfl) (.cons (.t rfl) .nil)) (by rintro _ _ ⟨_, _, _, _, rfl⟩; exact ⟨_, rfl⟩) fun r98 B98 hr98 => ?_)))))
        obtain ⟨k98, d98, hd98, rfl, hB⟩ := hr98
        cases hB
        refine .n (.stW ty28 (.t rfl) (.t rfl) .z ?_)
        refine .nil ?_
        refine .seq ?_
        refine .draw (by kernel_rfl) 12 [[], [], [], [], [(102, 2), (103, 3)], [(104, 4)], [(100, 0), (101, 1), (105, 5)], [(106, 6)], [(99, 7)], [(99, 7)], [(107, 8)], [(108, 9)]] rfl (by kernel_rfl) rfl ?_
        refine ⟨_, OpP.ldW ty32 (.t rfl) (.s (.s (.s (.s (.s .z))))) rfl, ?_⟩
        refine ⟨_, OpP.ldW ty28 (.t rfl) .z rfl, ?_⟩
        refine ⟨_, OpP.move (.t rfl) rfl, ?_⟩
        refine ⟨_, OpP.move (.t rfl) rfl, ?_⟩
        refine ⟨_, OpP.idx ty23 Tryd.underlying36 (.t rfl) (.t rfl) (by first | omega | (simp; done) | (simp; omega) | (simp at *; omega)) (by first | omega | (simp; done) | (simp; omega) | (simp at *; omega)) rfl, ?_⟩
        refine ⟨_, OpP.ldP ty23 (.t rfl) rfl, ?_⟩
        refine ⟨_, OpP.call1 hG (boxOpen_c _ _ _ hb5.plainLe) (.cons (.t rfl) (.cons (.t rfl) (.cons (.t rfl) .nil))) rfl, ?_⟩
        refine ⟨_, OpP.move (.t rfl) rfl, ?_⟩
        refine ⟨_, OpP.ext2_0 (.t rfl) rfl, ?_⟩
        refine ⟨_, OpP.ext2_1 (.t rfl) rfl, ?_⟩
        refine ⟨_, OpP.assign (.t rfl) rfl, ?_⟩
        refine ⟨_, OpP.assign (.t rfl) rfl, ?_⟩
        show wpB _ _ _ _ _ _ ((24, _) :: (23, _) :: (108, _) :: (107, _) :: (99, _) :: (106, _) :: (105, _) :: (104, _) :: (103, _) :: (102, _) :: (101, _) :: (100, _) :: _) _
        refine .nil ?_
        refine .seq ?_
        refine .draw (by kernel_rfl) 12 [[], [], [], [], [(112, 2), (113, 3)], [(114, 4)], [(110, 0), (111, 1), (115, 5)], [(116, 6)], [(109, 7)], [(109, 7)], [(117, 8)], [(118, 9)]] rfl (by kernel_rfl) rfl ?_
        refine ⟨_, OpP.ldW ty32 (.t rfl) (.s (.s (.s (.s (.s .z))))) rfl, ?_⟩
        refine ⟨_, OpP.ldW ty28 (.t rfl) .z rfl, ?_⟩
        refine ⟨_, OpP.move (.t rfl) rfl, ?_⟩
        refine ⟨_, OpP.move (.t rfl) rfl, ?_⟩
        refine ⟨_, OpP.idx ty23 Tryd.underlying36 (.t rfl) (.t rfl) (by first | omega | (simp; done) | (simp; omega) | (simp at *; omega)) (by first | omega | (simp; done) | (simp; omega) | (simp at *; omega)) rfl, ?_⟩
        refine ⟨_, OpP.ldP ty23 (.t rfl) rfl, ?_⟩
        refine ⟨_, OpP.call1 hG (rOpen_c _ _ _ hb5.plainLe) (.cons (.t rfl) (.cons (.t rfl) (.cons (.t rfl) .nil))) rfl, ?_⟩
        refine ⟨_, OpP.move (.t rfl) rfl, ?_⟩
        refine ⟨_, OpP.ext2_0 (.t rfl) rfl, ?_⟩
        refine ⟨_, OpP.ext2_1 (.t rfl) rfl, ?_⟩
        refine ⟨_, OpP.assign (.t rfl) rfl, ?_⟩
        refine ⟨_, OpP.assign (.t rfl) rfl, ?_⟩
        show wpB _ _ _ _ _ _ ((26, _) :: (25, _) :: (118, _) :: (117, _) :: (109, _) :: (116, _) :: (115, _) :: (114, _) :: (113, _) :: (112, _) :: (111, _) :: (110, _) :: _) _
        refine .nil ?_
        refine .seq ?_
        refine .region rfl ?_
        refine .p (.move (.t rfl) (.p (.move (.t rfl) (.p (.call1 hG (Same_c _ _) (.cons (.t rfl) (.cons (.t rfl) .nil)) (.p (.not (.t rfl) (.p (.move (.t rfl) ?_)))))))))
        refine .go 123 rfl (.t rfl) (fun hg124 => .move (.t rfl) rfl) ?_
        refine .go 123 rfl (.t rfl) (fun hg125 => .move (.t rfl) rfl) ?_
        refine .go 123 rfl (.t rfl) (fun hg126 => .neqI (.o rfl (beq_iff_eq.2 hg126)) (.o rfl (beq_iff_eq.2 hg126)) rfl) ?_
        refine .p (.pickOr (.t rfl) (fun hp => (.o rfl (beq_iff_eq.2 hp))) ?_)
        refine .nil ?_
        refine .cond (.t rfl) (fun hc127 => ?_) (fun hc127 => ?_)
        · refine .seq ?_
          refine .region rfl ?_
          refine .p (.assign .b ?_)
          refine .nil ?_
          refine .ret ?_
          refine ⟨_, .r1 rfl (.tmp rfl), ?_⟩
          exfalso; simp at hc127
        · refine .skip ?_
          refine .drop ?_
          refine .region rfl ?_
          refine .p (.move (.t rfl) (.p (.add (.t rfl) (.i rfl) (by first | omega | (simp; done) | (simp; omega) | (simp at *; omega)) (by first | omega | (simp; done) | (simp; omega) | (simp at *; omega)) (.p (.assign (.t rfl) ?_)))))
          refine .nil ?_
          refine ⟨(j + 1, _), .cons rfl (.cons rfl (.cons rfl (.cons rfl (.cons rfl (.cons rfl (.nil _)))))), rfl, ?_, by dsimp only; omega⟩
          exact ⟨by dsimp only; omega, by assumption⟩
      · refine .skip ?_
        refine .seq ?_
        refine .draw (by kernel_rfl) 12 [[], [], [], [], [(102, 2), (103, 3)], [(104, 4)], [(100, 0), (101, 1), (105, 5)], [(106, 6)], [(99, 7)], [(99, 7)], [(107, 8)], [(108, 9)]] rfl (by kernel_rfl) rfl ?_
        refine ⟨_, OpP.ldW ty32 (.t rfl) (.s (.s (.s (.s (.s .z))))) rfl, ?_⟩
        refine ⟨_, OpP.ldW ty28 (.t rfl) .z rfl, ?_⟩
        refine ⟨_, OpP.move (.t rfl) rfl, ?_⟩
        refine ⟨_, OpP.move (.t rfl) rfl, ?_⟩
        refine ⟨_, OpP.idx ty23 Tryd.underlying36 (.t rfl) (.t rfl) (by first | omega | (simp; done) | (simp; omega) | (simp at *; omega)) (by first | omega | (simp; done) | (simp; omega) | (simp at *; omega)) rfl, ?_⟩
        refine ⟨_, OpP.ldP ty23 (.t rfl) rfl, ?_⟩
        refine ⟨_, OpP.call1 hG (boxOpen_c _ _ _ hb5.plainLe) (.cons (.t rfl) (.cons (.t rfl) (.cons (.t rfl) .nil))) rfl, ?_⟩
        refine ⟨_, OpP.move (.t rfl) rfl, ?_⟩
        refine ⟨_, OpP.ext2_0 (.t rfl) rfl, ?_⟩
        refine ⟨_, OpP.ext2_1 (.t rfl) rfl, ?_⟩
        refine ⟨_, OpP.assign (.t rfl) rfl, ?_⟩
        refine ⟨_, OpP.assign (.t rfl) rfl, ?_⟩
        show wpB _ _ _ _ _ _ ((24, _) :: (23, _) :: (108, _) :: (107, _) :: (99, _) :: (106, _) :: (105, _) :: (104, _) :: (103, _) :: (102, _) :: (101, _) :: (100, _) :: _) _
        refine .nil ?_
        refine .seq ?_
        refine .draw (by kernel_rfl) 12 [[], [], [], [], [(112, 2), (113, 3)], [(114, 4)], [(110, 0), (111, 1), (115, 5)], [(116, 6)], [(109, 7)], [(109, 7)], [(117, 8)], [(118, 9)]] rfl (by kernel_rfl) rfl ?_
        refine ⟨_, OpP.ldW ty32 (.t rfl) (.s (.s (.s (.s (.s .z))))) rfl, ?_⟩
        refine ⟨_, OpP.ldW ty28 (.t rfl) .z rfl, ?_⟩
        refine ⟨_, OpP.move (.t rfl) rfl, ?_⟩
        refine ⟨_, OpP.move (.t rfl) rfl, ?_⟩
        refine ⟨_, OpP.idx ty23 Tryd.underlying36 (.t rfl) (.t rfl) (by first | omega | (simp; done) | (simp; omega) | (simp at *; omega)) (by first | omega | (simp; done) | (simp; omega) | (simp at *; omega)) rfl, ?_⟩
        refine ⟨_, OpP.ldP ty23 (.t rfl) rfl, ?_⟩
        refine ⟨_, OpP.call1 hG (rOpen_c _ _ _ hb5.plainLe) (.cons (.t rfl) (.cons (.t rfl) (.cons (.t rfl) .nil))) rfl, ?_⟩
        refine ⟨_, OpP.move (.t rfl) rfl, ?_⟩
        refine ⟨_, OpP.ext2_0 (.t rfl) rfl, ?_⟩
        refine ⟨_, OpP.ext2_1 (.t rfl) rfl, ?_⟩
        refine ⟨_, OpP.assign (.t rfl) rfl, ?_⟩
        refine ⟨_, OpP.assign (.t rfl) rfl, ?_⟩
        show wpB _ _ _ _ _ _ ((26, _) :: (25, _) :: (118, _) :: (117, _) :: (109, _) :: (116, _) :: (115, _) :: (114, _) :: (113, _) :: (112, _) :: (111, _) :: (110, _) :: _) _
        refine .nil ?_
        refine .seq ?_
        refine .region rfl ?_
        refine .p (.move (.t rfl) (.p (.move (.t rfl) (.p (.call1 hG (Same_c _ _) (.cons (.t rfl) (.cons (.t rfl) .nil)) (.p (.not (.t rfl) (.p (.move (.t rfl) ?_)))))))))
        refine .go 123 rfl (.t rfl) (fun hg124 => .move (.t rfl) rfl) ?_
        refine .go 123 rfl (.t rfl) (fun hg125 => .move (.t rfl) rfl) ?_
        refine .go 123 rfl (.t rfl) (fun hg126 => .neqI (.o rfl (beq_iff_eq.2 hg126)) (.o rfl (beq_iff_eq.2 hg126)) rfl) ?_
        refine .p (.pickOr (.t rfl) (fun hp => (.o rfl (beq_iff_eq.2 hp))) ?_)
        refine .nil ?_
        refine .cond (.t rfl) (fun hc127 => ?_) (fun hc127 => ?_)
        · refine .seq ?_
          refine .region rfl ?_
          refine .p (.assign .b ?_)
          refine .nil ?_
          refine .ret ?_
          refine ⟨_, .r1 rfl (.tmp rfl), ?_⟩
          exfalso; simp at hc127
        · refine .skip ?_
          refine .drop ?_
          refine .region rfl ?_
          refine .p (.move (.t rfl) (.p (.add (.t rfl) (.i rfl) (by first | omega | (simp; done) | (simp; omega) | (simp at *; omega)) (by first | omega | (simp; done) | (simp; omega) | (simp at *; omega)) (.p (.assign (.t rfl) ?_)))))
          refine .nil ?_
          refine ⟨(j + 1, _), .cons rfl (.cons rfl (.cons rfl (.cons rfl (.cons rfl (.cons rfl (.nil _)))))), rfl, ?_, by dsimp only; omega⟩
          exact ⟨by dsimp only; omega, by assumption⟩
    · refine .exit ?_
      refine .region rfl ?_
      refine .p (.move (.t rfl) (.p (.add (.t rfl) (.i rfl) (by first | omega | (simp; done) | (simp; omega) | (simp at *; omega)) (by first | omega | (simp; done) | (simp; omega) | (simp at *; omega)) (.p (.assign (.t rfl) ?_)))))
      refine .nil ?_
      refine ⟨(i + 1, e), .cons rfl (.cons rfl (.cons rfl (.cons rfl (.cons rfl (.nil _))))), rfl, ?_, by simp at hc86; dsimp only; omega⟩
      exact ⟨by simp at hc86; dsimp only; omega, by assumption⟩
  · refine .exit ?_
    refine .seq ?_
    refine .region rfl ?_
    refine .p (.call1 hG (awake11_c) .nil (.p (.assign (.t rfl) ?_)))
    refine .nil ?_
    refine .ret ?_
    refine ⟨_, .r1 rfl (.tmp rfl), ?_⟩
    simp
end Go.Proofs.YtiekhjbhlekaeaaDoor
set_option linter.unusedVariables false
namespace Go.Fl
open Go.ChangeShapes Go.WideShapes Go.ChangeAt Go.RowKit
def imOf (W : World) : Im := fun b => W.heap[b]?
theorem mem_imOf (W : World) : Mem (imOf W) [] W := ⟨fun b o h => h, by simp, by simp, by simp⟩
theorem Fun.calls {P : Program} {f : FuncId} {args : Array Value} {W : World} {r : Value} (h : Fun P f args (imOf W) (fun v _ => v = r)) :
    Calls P f args W (fun e W' => e = .returned r ∧ Below W.heap.size W W') :=
  (h.run W (mem_imOf W)).mono fun e w' ⟨v, J, he, hc, _, _, _, hv⟩ => ⟨by rw [he, hv], ⟨hc.os, hc.tape, hc.output, hc.size, fun k hk => hc.block k hk (by simp)⟩⟩
theorem cell_plain {W : World} {x : Addr} {v : Value} (h : W.cell? x = some v) : x.spot = none ∧ ∃ cs e fr, W.heap[x.block]? = some (.cells cs e fr) ∧ cs[x.off]? = some v := by
  unfold World.cell? at h
  split at h
  · rename_i c e fr heq
    split at h
    · cases h
    · rename_i hs
      exact ⟨by simpa using hs, c, e, fr, heq, h⟩
  · cases h
theorem words_laid {P : Program} {W : World} {n : String} {d : DataW Unit} {l : List UInt32} {g : Nat} {T E : TypeId} (hg : P.globalNamed n = some g) (ht : (P.globals[g]?).map (·.type) = some T) (hT : P.underlying T = some (.array l.length E))
    (hE : P.underlying E = some (.int .u32)) (hone : P.cellsOf E = 1) (hl : 0 < l.length) (hd : d = .agg (l.map fun k => .lit (.int .u32 (k.toNat : Int)))) (h : laidMet P [(n, d)] W) : Cells (imOf W) g 0 (l.map u32) := by
  obtain ⟨ps, ⟨g2, t, cs, fuel, p, q, hg2, ht2, hvar, htr, _, _⟩, _⟩ := h
  obtain rfl := Option.some.inj (hg.symm.trans hg2)
  obtain rfl := Option.some.inj (ht.symm.trans ht2)
  obtain ⟨xs, m, _, hx, hlen, hxl, hel⟩ := DataW.trod_array hT htr
  have hxd : xs.map (·.1) = l.map fun k => DataW.lit (.int .u32 (k.toNat : Int)) := by
    have := (Prod.mk.inj hx).1
    rw [hd] at this
    injection this with h2
    exact h2.symm
  have hcell : ∀ (i : Nat) (v : Value), (l.map u32)[i]? = some v → cs[i]? = some v := by
    intro i v hv
    have hi : i < l.length := by simpa using (List.getElem?_eq_some_iff.1 hv).1
    have h1 := hel i hi
    rw [hone] at h1
    have hxi : xs[i]? = some (xs[i]'(by omega)) := List.getElem?_eq_getElem (by omega)
    rw [hxi] at h1
    obtain ⟨k, hk1, hk2, _⟩ := DataW.trod_int hE h1
    have hfst : (xs.map (·.1))[i]? = some (DataW.lit (.int .u32 k)) := by rw [List.getElem?_map, hxi, Option.map_some, hk2]
    rw [hxd, List.getElem?_map, List.getElem?_eq_getElem hi] at hfst
    simp at hfst
    have hci : cs.toList[i]? = some (.int .u32 k) := by
      have : ((cs.toList.drop (i * 1)).take 1)[0]? = some (.int .u32 k) := by rw [hk1]; rfl
      simpa [List.getElem?_take, List.getElem?_drop] using this
    rw [List.getElem?_map, List.getElem?_eq_getElem hi, Option.map_some] at hv
    have hv := Option.some.inj hv
    rw [← hv, u32, hfst]
    simpa using hci
  have h0 : ∃ v, (l.map u32)[0]? = some v := ⟨_, List.getElem?_eq_getElem (by simpa using hl)⟩
  obtain ⟨v0, hv0⟩ := h0
  have hc0 := World.var?_cell hg hvar 0
  rw [hcell 0 v0 hv0] at hc0
  obtain ⟨_, cs2, e, fr, hob, _⟩ := cell_plain hc0
  refine ⟨cs2, e, fr, hob, fun i v hv => ?_⟩
  have h3 := World.var?_cell hg hvar i
  rw [hcell i v hv] at h3
  obtain ⟨_, cs3, e3, fr3, hob3, hv3⟩ := cell_plain h3
  have : Obj.cells cs2 e fr = Obj.cells cs3 e3 fr3 := Option.some.inj (hob.symm.trans hob3)
  cases this
  simpa using hv3
end Go.Fl
set_option linter.unusedVariables false
namespace Go.Ab
open Go.Fl Go.RowKit Go.ChangeShapes Go.WideShapes Go.ChangeAt
open Rep (rep)
def Opens (P : Program) (T : TypeId) (α : Type) [Rep α] : Prop := P.cellsOf T = Rep.size α ∧
  ∀ (H : Type) (enc : TypeId × Value → H) (W : World) (base : Nat) (spare : Nat → Bool) (held : Bool) (fuel : Nat) (cs : List Value) (x : DataW H × List MemPlace), DataW.trod enc P W base spare held fuel T cs = some x → ∃ a : α, rep (imOf W) a cs
variable {P : Program} {T E : TypeId}
theorem Opens.i64 (hT : P.underlying T = some (.int .i64)) (hc : P.cellsOf T = 1) : Opens P T Int := ⟨hc, fun H enc W base spare held fuel cs x h => by
  obtain ⟨n, rfl, _, hw⟩ := DataW.trod_int hT h
  simp [Lit.wf, IntKind.min, IntKind.max, IntKind.signed, IntKind.bits] at hw
  exact ⟨n, rfl, by omega, by omega⟩⟩
theorem Opens.u8 (hT : P.underlying T = some (.int .u8)) (hc : P.cellsOf T = 1) : Opens P T UInt8 := ⟨hc, fun H enc W base spare held fuel cs x h => by
  obtain ⟨n, rfl, _, hw⟩ := DataW.trod_int hT h
  simp [Lit.wf, IntKind.min, IntKind.max, IntKind.signed, IntKind.bits] at hw
  refine ⟨UInt8.ofNat n.toNat, ?_⟩
  show [Value.int .u8 n] = [Fl.u8 _]
  unfold Fl.u8
  congr 2; simp; omega⟩
theorem add_add (a : Addr) (i j : Nat) : (a.add i).add j = a.add (i + j) := by
  unfold Addr.add
  rcases a with ⟨b, o, _ | s⟩ <;> by_cases hi : i = 0 <;> by_cases hj : j = 0 <;> simp [hi, hj, Nat.add_assoc]
theorem Opens.slice {α : Type} {r : Rep α} (hT : P.underlying T = some (.slice E)) (hc : P.cellsOf T = 1) (hE : Opens P E α) (hp : 0 < Rep.size α) : Opens P T (List α) := ⟨hc, fun H enc W base spare held fuel cs x h => by
  rcases DataW.trod_slice hT h with ⟨rfl, _⟩ | ⟨a, len, cap, elems, rest, n, _, rfl, _, hb, hl, hm, hel, hget, _⟩
  · exact ⟨[], _, rfl, [], Sl.nil _ _, rfl⟩
  · have key : ∀ k, k ≤ len → ∃ (l : List α) (xs : List Value), l.length = k ∧ repL (imOf W) l xs ∧ ∀ i v, xs[i]? = some v → W.cell? (a.add i) = some v := by
      intro k
      induction k with
      | zero => exact fun _ => ⟨[], [], rfl, rfl, fun i v hv => by simp at hv⟩
      | succ k ih =>
        intro hk
        obtain ⟨l, xs, h1, h2, h3⟩ := ih (by omega)
        have hg := hget k (by omega)
        rw [List.getElem?_eq_getElem (by omega)] at hg
        obtain ⟨c, hc1, hc2⟩ := Option.bind_eq_some_iff.1 hg
        obtain ⟨_, hcl, hcell⟩ := World.cells?_some hc1
        obtain ⟨y, hy⟩ := hE.2 H enc W base spare held n c _ hc2
        refine ⟨l ++ [y], xs ++ c, by simp [h1], h2.append (.one hy), fun i v hv => ?_⟩
        have hxl : xs.length = k * Rep.size α := by rw [h2.len, h1]
        by_cases hi : i < xs.length
        · rw [List.getElem?_append_left hi] at hv; exact h3 i v hv
        · rw [List.getElem?_append_right (by omega)] at hv
          have hj := (List.getElem?_eq_some_iff.1 hv).1
          have := hcell (i - xs.length) (by omega)
          rw [hv, hE.1, add_add, ← hxl, show xs.length + (i - xs.length) = i by omega] at this
          exact this
    obtain ⟨l, xs, h1, h2, h3⟩ := key len (Nat.le_refl _)
    have hxl := h2.len
    refine ⟨l, _, rfl, xs, ⟨_, _, by rw [h1], h2.len, by omega, hm, (fun h => by cases h), fun hne => ?_⟩, h2⟩
    rcases a with ⟨ab, ao, ags⟩
    obtain ⟨v0, hv0⟩ : ∃ v, xs[0]? = some v := ⟨_, List.getElem?_eq_getElem (List.length_pos_iff.2 hne)⟩
    have hc0 := h3 0 v0 hv0
    obtain ⟨hsp, cs, e, fr, hob, _⟩ := cell_plain hc0
    have hsp2 : ags = none := by
      cases ags with
      | none => rfl
      | some q =>
        unfold Addr.add at hsp
        simp at hsp
    subst hsp2
    rw [Addr.add_plain] at hob
    have hob : W.heap[ab]? = some (Obj.cells cs e fr) := hob
    refine ⟨ab, ao, rfl, cs, e, fr, hob, fun i v hv => ?_⟩
    have hcv := h3 i v hv
    rw [Addr.add_plain] at hcv
    obtain ⟨_, cs2, e2, fr2, hob2, hv2⟩ := cell_plain hcv
    have : Obj.cells cs e fr = Obj.cells cs2 e2 fr2 := Option.some.inj (hob.symm.trans hob2)
    cases this
    exact hv2⟩
theorem Opens.val {α : Type} {r : Rep α} (h : Opens P T α) {H : Type} {enc : TypeId × Value → H} {W : World} {base : Nat} {spare : Nat → Bool} {held : Bool} {v : Value} {d : DataW H} {p : List MemPlace} (ht : DataW.Trod enc P W base spare held T v d p)
    (hv : ∀ cs : List Value, v.cells.toList = cs → v = asV (Rep.agg α) cs) : ∃ a : α, RepV (imOf W) (.v a) v := by
  obtain ⟨fuel, hf⟩ := ht
  obtain ⟨a, ha⟩ := h.2 H enc W base spare held fuel _ _ hf
  exact ⟨a, _, ha, hv _ rfl⟩
theorem FunA.calls {G : Gl} {f : FuncId} {ags : List AV} {vs : List Value} {W : World} (h : FunA G P f ags (fun r => r = .v true)) (hG : G.p (imOf W)) (hv : RepVs (imOf W) ags vs) :
    Calls P f vs.toArray W (fun e W' => e = .returned (.bool true) ∧ Below W.heap.size W W') :=
  Fun.calls ((h (imOf W) vs hG hv).mono fun v J _ ⟨r, h1, h2⟩ => by
    subst h2
    obtain ⟨cs, rfl, rfl⟩ := h1
    rfl)
theorem form_one {v : Value} (h : v.cells = #[v]) : ∀ cs : List Value, v.cells.toList = cs → v = asV false cs := fun cs hc => by
  rw [h] at hc; subst hc; rfl
end Go.Ab
set_option maxRecDepth 1000000
set_option linter.unusedVariables false
namespace Go.Proofs.YtiekhjbhlekaeaaDoor
open Go.Fl Go.Ab Go.Mac Go.Sha
open Go.ChangeShapes Go.WideShapes Go.ChangeAt Go.RowKit
theorem ownK : ownKnob Tryd.prog.godebug = none := by kernel_rfl
theorem laidOutK : laidOutB Tryd.prog = true := by kernel_rfl
noncomputable def kWorld (os : Os) : World :=
  let w0 := World.holding Tryd.prog os ⟨#[], #[], []⟩
  { w0 with heap := w0.heap.modify 1 fun
      | .cells _ t frozen => .cells (kk.map Fl.u32).toArray t frozen
      | o => o }
def kLaid : List (String × DataW Unit) := [("macaroon/sha.k", Rows.laid_macaroon_sha_k)]
set_option maxRecDepth 100000 in
theorem k_met (os : Os) (args : Array Value) : laidMet Tryd.prog kLaid ((kWorld os).forCall (fun _ _ => 0) ⟨#[], args, []⟩).memory :=
  laidMet_of_run' 8 (by kernel_rfl) (by kernel_rfl)
set_option maxRecDepth 100000 in
theorem k_cells {W : World} (h : laidMet Tryd.prog kLaid W) : gl.p (imOf W) :=
  words_laid (l := kk) (T := 132) (E := 112) (by kernel_rfl) (by kernel_rfl) Tryd.underlying132 Tryd.underlying112 (by kernel_rfl) (by decide) rfl h
theorem op5 : Opens Tryd.prog 5 UInt8 := .u8 Tryd.underlying5 (by kernel_rfl)
theorem op3 : Opens Tryd.prog 3 Int := .i64 Tryd.underlying3 (by kernel_rfl)
theorem op22 : Opens Tryd.prog 22 (List Int) := .slice Tryd.underlying22 (by kernel_rfl) op3 (by decide)
theorem op23 : Opens Tryd.prog 23 (List UInt8) := .slice Tryd.underlying23 (by kernel_rfl) op5 (by decide)
end Go.Proofs.YtiekhjbhlekaeaaDoor
set_option maxRecDepth 1000000
set_option linter.unusedVariables false
set_option linter.unusedSimpArgs false
namespace Go.Proofs.YtiekhjbhlekaeaaDoor
open Go.Fl Go.Ab Go.Mac Go.Sha
theorem AlgOk.boxLen {a : Alg} (h : AlgOk a 1) : a.Boxes.length ≤ 1000000 := by have := h.boxes; omega
def fx (n : Int) (p : List UInt8) : List UInt8 := (symTag 98 n).l ++ List.replicate (p.length + 8) 0
theorem fx_ne (p q : List UInt8) : fx 1 p ≠ fx 2 q := fun h => by
  have h1 : symTag 98 1 = symTag 98 2 := Arr.ext (List.append_inj_left h (by rw [symTag_len, symTag_len]))
  exact absurd (sym98 0 (by decide) 1 (by decide) h1) (by decide)
def fa0 : Alg := ⟨true, default, 0, [], []⟩
theorem fOpen1 (k l : Tag) (i : Int) (p : List UInt8) (ms : List G_api_Sealed) (h : ∀ y ∈ ms, y.Box ≠ fx 1 p) : algOpen ⟨true, default, 0, [], ⟨k, i, p, fx 1 p⟩ :: ms⟩ l (fx 1 p) = (if k = l then p else [], if k = l then 0 else 14) := by
  by_cases e : k = l
  · rw [if_pos e, if_pos e, algOpen_found rfl (x := ⟨k, i, p, fx 1 p⟩)]
    simp [openEq, e]
  · rw [if_neg e, if_neg e, algOpen_none rfl]
    rw [List.find?_eq_none]
    intro y hy
    simp only [List.mem_cons] at hy
    rcases hy with rfl | hy
    · simp [openEq, e]
    · simp [openEq, h y hy]
theorem BoxFree_plain (k l : Tag) (i j : Int) (p q : List UInt8) (hi : 0 ≤ i ∧ i < 3) (hj : 0 ≤ j ∧ j < 3) (hp : p.length ≤ 100) (hq : q.length ≤ 100) :
    ∃ a1 a2 y u g, algSeal fa0 k i p = (a1, fx 1 p, 0) ∧ algSeal a1 l j q = (a2, y, 0) ∧ algOpen a2 l (fx 1 p) = (u, g) ∧ AlgOk a1 1 ∧ AlgOk a2 2 ∧
      decide (fx 1 p = y) = (decide (k = l) && decide (i = j) && decide (p = q)) ∧ decide (g = 0) = decide (k = l) ∧ (g ≠ 0 ∨ u = p) := by
  have h0 : AlgOk fa0 0 := AlgOk.new _ _ _
  have r1 : (decide (i < 0) || decide (281474976710656 < i)) = false := by simp; omega
  have r2 : (decide (j < 0) || decide (281474976710656 < j)) = false := by simp; omega
  have e1 : algSeal fa0 k i p = (⟨true, default, 0, [], [⟨k, i, p, fx 1 p⟩]⟩, fx 1 p, 0) := by
    rw [algSeal_new r1 (by omega) rfl (by decide), newBox_free rfl]; rfl
  have ok1 : AlgOk ⟨true, default, 0, [], [⟨k, i, p, fx 1 p⟩]⟩ 1 := by
    have := h0.boxed (by decide) (k := k) (c := i) (p := p) (by omega) (by omega) (by omega)
    rw [e1] at this; exact this
  have ok2 := ok1.boxed (by decide) (k := l) (c := j) (p := q) (by omega) (by omega) (by omega)
  by_cases hs : sealEq l j q ⟨k, i, p, fx 1 p⟩ = true
  · have e2 : algSeal ⟨true, default, 0, [], [⟨k, i, p, fx 1 p⟩]⟩ l j q = (⟨true, default, 0, [], [⟨k, i, p, fx 1 p⟩]⟩, fx 1 p, 0) := by
      rw [algSeal_found r2 (by omega) (x := ⟨k, i, p, fx 1 p⟩) (by rw [List.find?_cons_of_pos hs])]
    rw [e2] at ok2
    simp only [sealEq, Bool.and_eq_true, decide_eq_true_eq] at hs
    obtain ⟨⟨rfl, rfl⟩, rfl⟩ := hs
    refine ⟨_, _, _, p, 0, e1, e2, ?_, ok1, ok2, by simp, by simp, .inr rfl⟩
    rw [fOpen1 _ _ _ _ [] (by simp), if_pos rfl, if_pos rfl]
  · have e2 : algSeal ⟨true, default, 0, [], [⟨k, i, p, fx 1 p⟩]⟩ l j q = (⟨true, default, 0, [], [⟨k, i, p, fx 1 p⟩, ⟨l, j, q, fx 2 q⟩]⟩, fx 2 q, 0) := by
      rw [algSeal_new r2 (by omega) (by rw [List.find?_cons_of_neg hs]; rfl) (by simp), newBox_free rfl]; rfl
    rw [e2] at ok2
    refine ⟨_, _, _, _, _, e1, e2, fOpen1 k l i p _ (by intro y hy; simp only [List.mem_singleton] at hy; subst hy; exact (fx_ne p q).symm), ok1, ok2, ?_, ?_, ?_⟩
    · have h3 : ¬ (k = l ∧ i = j ∧ p = q) := fun h => hs (by simp [sealEq, h.1, h.2.1, h.2.2])
      have h4 : (decide (k = l) && decide (i = j) && decide (p = q)) = false := by
        cases hb : (decide (k = l) && decide (i = j) && decide (p = q)) with
        | false => rfl
        | true => simp only [Bool.and_eq_true, decide_eq_true_eq] at hb; exact absurd ⟨hb.1.1, hb.1.2, hb.2⟩ h3
      rw [h4]; simp [fx_ne p q]
    · by_cases e : k = l <;> simp [e]
    · by_cases e : k = l <;> simp [e]
theorem BoxFree_c (deck : List Int) (p q : List UInt8) : FunA gl Tryd.prog 12 [.v deck, .v p, .v q] (fun r => r = .v true) := by
  refine FunA.intro Tryd.func12 rfl (by kernel_rfl) 111 rfl rfl _ rfl fun C hC hG => ?_
  have hp1 : (p.take (min (p.length : Int) 100).toNat).length ≤ 100 := by simp; omega
  have hq1 : (q.take (min (q.length : Int) 100).toNat).length ≤ 100 := by simp; omega
  refine .seq ?_
  refine .region rfl ?_
  refine .p (.assign .b ?_)
  refine .nil ?_
  refine .seq ?_
  refine .draw (by kernel_rfl) 12 [[], [], [(21, 1)], [(22, 2)], [(20, 0), (23, 3)], [], [], [(26, 6)], [(27, 7)], [(25, 5), (28, 8)], [(24, 4)], [(29, 9)]] rfl (by kernel_rfl) rfl ?_
  refine ⟨_, OpP.move (.t rfl) rfl, ?_⟩
  refine ⟨_, OpP.move (.t rfl) rfl, ?_⟩
  refine ⟨_, OpP.len Tryd.underlying23 (.t rfl) rfl, ?_⟩
  refine ⟨_, OpP.minI (.t rfl) (.i rfl) rfl, ?_⟩
  refine ⟨_, OpP.slHi ty5 Tryd.underlying23 (.t rfl) (.t rfl) (by first | omega | (simp; done) | (simp; omega) | (simp at *; omega)) (by first | omega | (simp; done) | (simp; omega) | (simp at *; omega)) rfl, ?_⟩
  refine ⟨_, OpP.move (.t rfl) rfl, ?_⟩
  refine ⟨_, OpP.move (.t rfl) rfl, ?_⟩
  refine ⟨_, OpP.len Tryd.underlying23 (.t rfl) rfl, ?_⟩
  refine ⟨_, OpP.minI (.t rfl) (.i rfl) rfl, ?_⟩
  refine ⟨_, OpP.slHi ty5 Tryd.underlying23 (.t rfl) (.t rfl) (by first | omega | (simp; done) | (simp; omega) | (simp at *; omega)) (by first | omega | (simp; done) | (simp; omega) | (simp at *; omega)) rfl, ?_⟩
  refine ⟨_, OpP.assign (.t rfl) rfl, ?_⟩
  refine ⟨_, OpP.assign (.t rfl) rfl, ?_⟩
  show wpB _ _ _ _ _ _ ((2, _) :: (1, _) :: (29, _) :: (28, _) :: (27, _) :: (26, _) :: (25, _) :: (24, _) :: (23, _) :: (22, _) :: (21, _) :: (20, _) :: _) _
  refine .nil ?_
  refine .seq ?_
  refine .region rfl ?_
  refine .p (.move (.t rfl) (.h (.call0 hG (deckNew_c _) (.cons (.t rfl) .nil) fun r31 Hs31 hr31 => ?_)))
  obtain ⟨b31, rfl, rfl⟩ := hr31
  show wpB _ _ _ _ _ _ _ ((true, _) :: _)
  have hd : DeckOk (⟨deck, 0⟩ : G_macaroonmade_Deck) := Int.le_refl 0
  refine .p (.assign (.t rfl) ?_)
  refine .nil ?_
  refine .seq ?_
  refine .region rfl ?_
  refine .p (.move (.t rfl) (.h (.callM hG (Tag_deck_c _ _ (by assumption)) .z (.cons (.t rfl) .nil) (by rintro _ _ ⟨_, _, _, _, rfl⟩; exact ⟨_, rfl⟩) fun r33 B33 hr33 => ?_)))
  obtain ⟨k33, d33, hd33, rfl, hB⟩ := hr33
  cases hB
  refine .p (.move (.t rfl) (.h (.callM hG (Tag_deck_c _ _ (by assumption)) .z (.cons (.t rfl) .nil) (by rintro _ _ ⟨_, _, _, _, rfl⟩; exact ⟨_, rfl⟩) fun r35 B35 hr35 => ?_)))
  obtain ⟨k35, d35, hd35, rfl, hB⟩ := hr35
  cases hB
  refine .h (.alloc ty28 fun b8 => .h (.alloc ty28 fun b9 => .n (.stW ty28 (.t rfl) (.t rfl) (.s .z) (.n (.stW ty28 (.t rfl) (.t rfl) .z ?_)))))
  refine .nil ?_
  refine .seq ?_
  refine .region rfl ?_
  refine .p (.move (.t rfl) (.h (.callM hG (Next_e _ _ _ (by assumption) (by first | omega | (simp; done) | (simp; omega) | (simp at *; omega)) (by first | omega | (simp; done) | (simp; omega) | (simp at *; omega))) (.s (.s .z)) (.cons (.t rfl) (.cons (.i rfl) .nil)) (by rintro _ _ ⟨_, _, _, _, _, _, rfl⟩; exact ⟨_, rfl⟩) fun r37 B37 hr37 => ?_)))
  obtain ⟨v37, d37, h037, h137, hd37, rfl, hB⟩ := hr37
  cases hB
  refine .p (.move (.t rfl) (.h (.callM hG (Next_e _ _ _ (by assumption) (by first | omega | (simp; done) | (simp; omega) | (simp at *; omega)) (by first | omega | (simp; done) | (simp; omega) | (simp at *; omega))) (.s (.s .z)) (.cons (.t rfl) (.cons (.i rfl) .nil)) (by rintro _ _ ⟨_, _, _, _, _, _, rfl⟩; exact ⟨_, rfl⟩) fun r39 B39 hr39 => ?_)))
  obtain ⟨v39, d39, h039, h139, hd39, rfl, hB⟩ := hr39
  cases hB
  refine .p (.assign (.t rfl) (.p (.assign (.t rfl) ?_)))
  obtain ⟨a1, a2, y, u, g, h1, h2, h3, ok1, ok2, hxy, hgk, hu⟩ := BoxFree_plain k33 k35 v37 v39 _ _ ⟨h037, h137⟩ ⟨h039, h139⟩ hp1 hq1
  refine .nil ?_
  refine .seq ?_
  refine .region rfl ?_
  refine .p (.bS1 G_api_Algebra.l0 rfl ty32 fo32 (fun c0 => (⟨c0, default, 0, [], []⟩ : G_api_Algebra)) (fun _ => rfl) rfl rfl .b (.p (.ldW ty28 (.t rfl) (.s .z) (.p (.move (.t rfl) (.p (.move (.t rfl) (.p (.call1 hG (seal_as (by decide) (by intro y hy; cases hy) h1) (.cons (.t rfl) (.cons (.t rfl) (.cons (.t rfl) (.cons (.t rfl) .nil)))) (.p (.move (.t rfl) ?_)))))))))))
  refine .p (.ext3_0 (.t rfl) (.p (.ext3_1 (.t rfl) (.p (.ext3_2 (.t rfl) (.h (.alloc ty32 fun b12 => .n (.stW ty32 (.t rfl) (.t rfl) .z (.p (.assign (.t rfl) ?_))))))))))
  refine .p (.assign (.t rfl) ?_)
  refine .nil ?_
  refine .seq ?_
  refine .region rfl ?_
  refine .p (.ldW ty32 (.t rfl) .z (.p (.ldW ty28 (.t rfl) (.s .z) (.p (.move (.t rfl) (.p (.move (.t rfl) (.p (.call1 hG (seal_as ok1.boxLen ok1.boxLe h2) (.cons (.t rfl) (.cons (.t rfl) (.cons (.t rfl) (.cons (.t rfl) .nil)))) (.p (.move (.t rfl) ?_)))))))))))
  refine .p (.ext3_0 (.t rfl) (.p (.ext3_1 (.t rfl) (.p (.ext3_2 (.t rfl) (.n (.stW ty32 (.t rfl) (.t rfl) .z (.p (.assign (.t rfl) (.p (.assign (.t rfl) ?_)))))))))))
  refine .nil ?_
  refine .seq ?_
  refine .region rfl ?_
  refine .p (.ldW ty32 (.t rfl) .z (.p (.ldW ty28 (.t rfl) (.s .z) (.p (.move (.t rfl) (.p (.call1 hG (open_as ok2.plainLe h3) (.cons (.t rfl) (.cons (.t rfl) (.cons (.t rfl) .nil))) (.p (.move (.t rfl) (.p (.ext2_0 (.t rfl) ?_)))))))))))
  refine .p (.ext2_1 (.t rfl) (.p (.assign (.t rfl) (.p (.assign (.t rfl) ?_)))))
  refine .nil ?_
  refine .seq ?_
  refine .region rfl ?_
  refine .p (.ldW ty28 (.t rfl) (.s (.s .z)) (.p (.ldW ty28 (.t rfl) (.s .z) (.p (.eqlA8 Tryd.underlying28 sz5 Tryd.underlying5 gd28 (.t rfl) (.t rfl) (.p (.move (.t rfl) ?_)))))))
  refine .go 68 rfl (.t rfl) (fun hg69 => .move (.t rfl) rfl) ?_
  refine .go 68 rfl (.t rfl) (fun hg70 => .move (.t rfl) rfl) ?_
  refine .go 68 rfl (.t rfl) (fun hg71 => .eqlI (.o rfl (beq_iff_eq.2 hg71)) (.o rfl (beq_iff_eq.2 hg71)) rfl) ?_
  refine .p (.pickAnd (.t rfl) (fun hp => (.o rfl (beq_iff_eq.2 hp))) (.p (.move (.t rfl) ?_)))
  refine .go 73 rfl (.t rfl) (fun hg74 => .move (.t rfl) rfl) ?_
  refine .go 73 rfl (.t rfl) (fun hg75 => .move (.t rfl) rfl) ?_
  refine .go 73 rfl (.t rfl) (fun hg76 => .call1 hG (Same_c _ _) (.cons (.o rfl (beq_iff_eq.2 hg76)) (.cons (.o rfl (beq_iff_eq.2 hg76)) .nil)) rfl) ?_
  refine .p (.pickAnd (.t rfl) (fun hp => (.o rfl (beq_iff_eq.2 hp))) (.p (.assign (.t rfl) ?_)))
  refine .nil ?_
  refine .seq ?_
  refine .region rfl ?_
  refine .p (.move (.t rfl) (.p (.eqlI (.t rfl) (.i rfl) (.p (.move (.t rfl) ?_)))))
  refine .gk 80 rfl (.t rfl) (by simp) (.ofP (.move (.t rfl) ?_))
  refine .gk 80 rfl (.t rfl) (by simp) (.ofP (.eqlI (.t rfl) (.i rfl) ?_))
  refine .p (.pickAnd (.t rfl) (fun hp => (.t rfl)) (.p (.move (.t rfl) ?_)))
  refine .gk 84 rfl (.t rfl) (by simp) (.ofP (.move (.t rfl) ?_))
  refine .gk 84 rfl (.t rfl) (by simp) (.ofP (.move (.t rfl) ?_))
  refine .gk 84 rfl (.t rfl) (by simp) (.ofP (.call1 hG (Same_c _ _) (.cons (.t rfl) (.cons (.t rfl) .nil)) ?_))
  refine .gk 84 rfl (.t rfl) (by simp) (.ofP (.move (.t rfl) ?_))
  refine .gk 84 rfl (.t rfl) (by simp) (.ofP (.eqlBl Tryd.underlying4 (.t rfl) (.t rfl) ?_))
  refine .p (.pickAnd (.t rfl) (fun hp => (.t rfl)) (.p (.move (.t rfl) ?_)))
  refine .gk 91 rfl (.t rfl) (by simp [hxy]) (.ofP (.move (.t rfl) ?_))
  refine .gk 91 rfl (.t rfl) (by simp [hxy]) (.ofP (.eqlI (.t rfl) (.i rfl) ?_))
  refine .gk 91 rfl (.t rfl) (by simp [hxy]) (.ofP (.ldW ty28 (.t rfl) (.s (.s .z)) ?_))
  refine .gk 91 rfl (.t rfl) (by simp [hxy]) (.ofP (.ldW ty28 (.t rfl) (.s .z) ?_))
  refine .gk 91 rfl (.t rfl) (by simp [hxy]) (.ofP (.eqlA8 Tryd.underlying28 sz5 Tryd.underlying5 gd28 (.t rfl) (.t rfl) ?_))
  refine .gk 91 rfl (.t rfl) (by simp [hxy]) (.ofP (.eqlBl Tryd.underlying4 (.t rfl) (.t rfl) ?_))
  refine .p (.pickAnd (.t rfl) (fun hp => (.t rfl)) (.p (.move (.t rfl) ?_)))
  refine .gk 99 rfl (.t rfl) (by simp [hxy, hgk]) (.ofP (.move (.t rfl) ?_))
  refine .gk 99 rfl (.t rfl) (by simp [hxy, hgk]) (.ofP (.neqI (.t rfl) (.i rfl) ?_))
  refine .gk 99 rfl (.t rfl) (by simp [hxy, hgk]) (.ofP (.move (.t rfl) ?_))
  refine .go 102 rfl (.t rfl) (fun hg103 => .move (.t rfl) rfl) ?_
  refine .go 102 rfl (.t rfl) (fun hg104 => .move (.t rfl) rfl) ?_
  refine .go 102 rfl (.t rfl) (fun hg105 => .call1 hG (Same_c _ _) (.cons (.o rfl (beq_iff_eq.2 hg105)) (.cons (.o rfl (beq_iff_eq.2 hg105)) .nil)) rfl) ?_
  refine .gk 99 rfl (.t rfl) (by simp [hxy, hgk]) (.ofP (.pickOr (.t rfl) (fun hp => (.o rfl (beq_iff_eq.2 hp))) ?_))
  refine .p (.pickAnd (.t rfl) (fun hp => (.t rfl)) (.p (.move (.t rfl) ?_)))
  refine .go 108 rfl (.t rfl) (fun hg109 => .call1 hG (awake11_c) .nil rfl) ?_
  refine .p (.pickAnd (.t rfl) (fun hp => (.o rfl (beq_iff_eq.2 hp))) (.p (.assign (.t rfl) ?_)))
  refine .nil ?_
  refine .ret ?_
  refine ⟨_, .r1 rfl (.tmp rfl), ?_⟩
  rcases hu with hu | hu
  · have hk : ¬ k33 = k35 := fun e => hu (by simpa [e] using hgk); simp [hxy, hgk, hk]
  · simp [hxy, hgk, hu]
end Go.Proofs.YtiekhjbhlekaeaaDoor
