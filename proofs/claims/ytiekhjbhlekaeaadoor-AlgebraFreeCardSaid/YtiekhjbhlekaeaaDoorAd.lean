/- Walks of the deck: tags and bytes. -/
import Derived.Test.YtiekhjbhlekaeaaDoorAo
set_option maxRecDepth 1000000
set_option linter.unusedVariables false
set_option linter.unusedSimpArgs false
namespace Go.Proofs.YtiekhjbhlekaeaaDoor
open Go.Fl Go.Ab Go.Mac Go.Sha
theorem Tag_deck_c (w : Value) (d : G_macaroonmade_Deck) (hd : DeckOk d) : FunH gl Tryd.prog 41 [dk w] [.ob w d] (fun r Hs => ∃ t : Tag, ∃ d', DeckOk d' ∧ r = .v t ∧ Hs = [.ob w d']) := by
  refine FunH.introD Tryd.func41 rfl (by kernel_rfl) 16 rfl rfl _ rfl _ rfl fun C hC hG => ?_
  refine .seq ?_
  refine .region rfl ?_
  refine .h (.alloc ty28 fun b2 => ?_)
  refine .nil ?_
  refine .seq ?_
  refine .region rfl ?_
  refine .h (.alloc ty28 fun b3 => ?_)
  refine .nil ?_
  refine .seq ?_
  refine .seq ?_
  refine .region rfl ?_
  refine .p (.assign (.i rfl) ?_)
  refine .nil ?_
  refine .block ?_
  refine .loopR (α := Nat × Tag × G_macaroonmade_Deck) [(0, _), (2, _), (3, _)] (fun x R => (4, .v (x.1 : Int)) :: R) (fun x => [(true, .ob (ptr b3 0) x.2.1), (true, .ob (ptr b2 0) (default : Tag)), (false, .ob w x.2.2)]) (fun x => x.1 ≤ 4 ∧ DeckOk x.2.2) (fun x => 4 - x.1) ((0, default, d)) (.cons rfl (.cons rfl (.cons rfl (.nil _)))) ?_ (.cons rfl (.cons rfl (.cons rfl (.cons rfl (.nil _))))) (rfl) fun x hF => ?_
  · exact ⟨Nat.zero_le _, hd⟩
  obtain ⟨k, t, e⟩ := x
  obtain ⟨h1, h2⟩ := hF
  dsimp only at h1 h2 ⊢
  refine .seq ?_
  refine .seq ?_
  refine .region rfl ?_
  refine .p (.move (.t rfl) (.p (.lss (.t rfl) (.i rfl) ?_)))
  refine .nil ?_
  refine .condP (.t rfl) (fun hc6 => ?_) (fun hc6 => ?_)
  · refine .skip ?_
    refine .seq ?_
    refine .block ?_
    refine .region rfl ?_
    refine .p (.move (.t rfl) (.p (.mul (.t rfl) (.i rfl) (by first | omega | (simp; done) | (simp; omega) | (simp at *; omega)) (by first | omega | (simp; done) | (simp; omega) | (simp at *; omega)) (.p (.move (.t rfl) (.h (.callM hG (Next_c _ _ _ (by assumption) (by first | omega | (simp; done) | (simp; omega) | (simp at *; omega)) (by first | omega | (simp; done) | (simp; omega) | (simp at *; omega))) (.s (.s .z)) (.cons (.t rfl) (.cons (.i rfl) .nil)) (by rintro _ _ ⟨_, rfl⟩; exact ⟨_, rfl⟩) fun r12 B12 hr12 => ?_)))))))
    obtain ⟨rfl, hB⟩ := hr12
    cases hB
    refine .p (.conv8 Tryd.underlying3 Tryd.underlying5 (.t rfl) (.p (.idxW ar28 (.t rfl) (.t rfl) (by first | omega | (simp; done) | (simp; omega) | (simp at *; omega)) (by first | omega | (simp; done) | (simp; omega) | (simp at *; omega)) (.n (.stL ty5 (.t rfl) (.t rfl) .z ?_)))))
    refine .nil ?_
    refine .region rfl ?_
    refine .p (.move (.t rfl) (.p (.add (.t rfl) (.i rfl) (by first | omega | (simp; done) | (simp; omega) | (simp at *; omega)) (by first | omega | (simp; done) | (simp; omega) | (simp at *; omega)) (.p (.assign (.t rfl) ?_)))))
    refine .nil ?_
    refine ⟨(k + 1, _, _), .cons rfl (.cons rfl (.cons rfl (.cons rfl (.nil _)))), rfl, ?_, by dsimp only; omega⟩
    exact ⟨by dsimp only; omega, deckNext_ok h2⟩
  · refine .exit ?_
    refine .seq ?_
    refine .region rfl ?_
    refine .p (.ldW ty28 (.t rfl) .z (.n (.stW ty28 (.t rfl) (.t rfl) (.s .z) ?_)))
    refine .nil ?_
    refine .ret ?_
    refine ⟨_, .r1 rfl (.cell ty28 rfl (.s .z)), ?_⟩
    exact ⟨2, _, _, h2, rfl, rfl⟩
theorem Bytes_deck_c (w : Value) (d : G_macaroonmade_Deck) (n : Int) (hd : DeckOk d) (h0 : 0 ≤ n) (h1 : n ≤ 1000000) : FunH gl Tryd.prog 20 [dk w, .v n] [.ob w d] (fun r Hs => ∃ l : List UInt8, (l.length : Int) ≤ n ∧ ∃ d', DeckOk d' ∧ r = .v l ∧ Hs = [.ob w d']) := by
  have hn0 := deckNext_le (d := d) (n := n + 1) (by omega)
  refine FunH.introD Tryd.func20 rfl (by kernel_rfl) 22 rfl rfl _ rfl _ rfl fun C hC hG => ?_
  refine .seq ?_
  refine .region rfl ?_
  refine .p (.assign (.nilS (α := UInt8)) ?_)
  refine .nil ?_
  refine .seq ?_
  refine .region rfl ?_
  refine .p (.assign .raw ?_)
  refine .nil ?_
  refine .seq ?_
  refine .seq ?_
  refine .nilOwn 5 UInt8 ?_
  refine .region rfl ?_
  refine .p (.move (.t rfl) (.p (.move (.t rfl) (.p (.add (.t rfl) (.i rfl) (by first | omega | (simp; done) | (simp; omega) | (simp at *; omega)) (by first | omega | (simp; done) | (simp; omega) | (simp at *; omega)) (.h (.callM hG (Next_c _ _ _ (by assumption) (by first | omega | (simp; done) | (simp; omega) | (simp at *; omega)) (by first | omega | (simp; done) | (simp; omega) | (simp at *; omega))) (.s .z) (.cons (.t rfl) (.cons (.t rfl) .nil)) (by rintro _ _ ⟨_, rfl⟩; exact ⟨_, rfl⟩) fun r10 B10 hr10 => ?_)))))))
  obtain ⟨rfl, hB⟩ := hr10
  cases hB
  refine .p (.assign (.t rfl) ?_)
  refine .nil ?_
  refine .block ?_
  refine .loopR (α := Nat × Value × List UInt8 × G_macaroonmade_Deck) [(0, _)] (fun x R => (5, .raw x.2.1) :: (6, .v (x.1 : Int)) :: R) (fun x => [(true, .own 5 x.2.1 x.2.2.1), (false, .ob w x.2.2.2)]) (fun x => (x.1 : Int) + x.2.2.1.length ≤ n ∧ DeckOk x.2.2.2) (fun x => x.1) (((deckNext d (n + 1)).1.toNat, .slice none 0 0, [], (deckNext d (n + 1)).2)) (.cons rfl (.nil _)) ?_ (.cons rfl (.cons (congrArg (fun q => some (AV.v q)) (by dsimp only; omega)) (.cons rfl (.nil _)))) (rfl) fun x hF => ?_
  · exact ⟨by dsimp only; simp; omega, deckNext_ok hd⟩
  obtain ⟨k, v, b, e⟩ := x
  obtain ⟨h2, h3⟩ := hF
  dsimp only at h2 h3 ⊢
  refine .seq ?_
  refine .seq ?_
  refine .region rfl ?_
  refine .p (.move (.t rfl) (.p (.gtr (.t rfl) (.i rfl) ?_)))
  refine .nil ?_
  refine .condP (.t rfl) (fun hc12 => ?_) (fun hc12 => ?_)
  · refine .skip ?_
    refine .seq ?_
    refine .block ?_
    refine .region rfl ?_
    refine .p (.move (.t rfl) (.p (.move (.t rfl) (.h (.callM hG (Next_c _ _ _ (by assumption) (by first | omega | (simp; done) | (simp; omega) | (simp at *; omega)) (by first | omega | (simp; done) | (simp; omega) | (simp at *; omega))) (.s .z) (.cons (.t rfl) (.cons (.i rfl) .nil)) (by rintro _ _ ⟨_, rfl⟩; exact ⟨_, rfl⟩) fun r17 B17 hr17 => ?_)))))
    obtain ⟨rfl, hB⟩ := hr17
    cases hB
    refine .p (.conv8 Tryd.underlying3 Tryd.underlying5 (.t rfl) (.h (.buildSlice (α := UInt8) ty5 Tryd.underlying23 (.cons (.t rfl) .nil) rfl (by decide) fun b19 => .h (.append st23 (.inl ⟨_, Tryd.underlying23⟩) rfl (.s .z) (.own rfl .z) (by first | omega | (simp; done) | (simp; omega) | (simp at *; omega)) (by first | omega | (simp; done) | (simp; omega) | (simp at *; omega)) (fun w20 => .p (.assign (.t rfl) ?_)) rfl))))
    refine .drop ?_
    refine .nil ?_
    refine .region rfl ?_
    refine .p (.move (.t rfl) (.p (.sub (.t rfl) (.i rfl) (by first | omega | (simp; done) | (simp; omega) | (simp at *; omega)) (by first | omega | (simp; done) | (simp; omega) | (simp at *; omega)) (.p (.assign (.t rfl) ?_)))))
    refine .nil ?_
    refine ⟨(k - 1, w20, _, _), .cons rfl (.cons (congrArg (fun q => some (AV.v q)) (by dsimp only; omega)) (.cons rfl (.nil _))), rfl, ?_, by dsimp only; omega⟩
    exact ⟨by dsimp only; simp; omega, deckNext_ok h3⟩
  · refine .exit ?_
    refine .seq ?_
    refine .frzOwn hC .z ?_
    refine .as 5 rfl .z ?_
    refine .region rfl ?_
    refine .p (.move (.t rfl) (.p (.assign (.t rfl) ?_)))
    refine .nil ?_
    refine .ret ?_
    refine ⟨_, .r1 rfl (.tmp rfl), ?_⟩
    exact ⟨1, _, by omega, _, h3, rfl, rfl⟩
theorem Known_deck_c (w : Value) (d : G_macaroonmade_Deck) (a : Alg) (hd : DeckOk d) (h0 : a.Macs.length ≤ 100000) (h1 : a.Boxes.length ≤ 100000) : FunH gl Tryd.prog 19 [dk w, .v a] [.ob w d] (fun r Hs => ∃ t : Tag, ∃ d', DeckOk d' ∧ r = .v t ∧ Hs = [.ob w d']) := by
  have hok1 := deckNext_ok (n := 4) hd
  refine FunH.introD Tryd.func19 rfl (by kernel_rfl) 67 rfl rfl _ rfl _ rfl fun C hC hG => ?_
  refine .seq ?_
  refine .region rfl ?_
  refine .h (.box (.t rfl) fun b3 => .h (.alloc ty28 fun b4 => ?_))
  refine .nil ?_
  refine .seq ?_
  refine .seq ?_
  refine .frzOb hC (.s .z) ?_
  refine .asP 3 rfl (.s .z) ?_
  refine .region rfl ?_
  refine .p (.move (.t rfl) (.h (.callM hG (Next_c _ _ _ (by assumption) (by first | omega | (simp; done) | (simp; omega) | (simp at *; omega)) (by first | omega | (simp; done) | (simp; omega) | (simp at *; omega))) (.s (.s .z)) (.cons (.t rfl) (.cons (.i rfl) .nil)) (by rintro _ _ ⟨_, rfl⟩; exact ⟨_, rfl⟩) fun r7 B7 hr7 => ?_)))
  obtain ⟨rfl, hB⟩ := hr7
  cases hB
  refine .p (.assign (.t rfl) ?_)
  refine .nil ?_
  refine .block ?_
  refine .seq ?_
  refine .region rfl ?_
  refine .p (.move (.t rfl) (.p (.eqlI (.t rfl) (.i rfl) (.p (.move (.t rfl) ?_)))))
  refine .go 11 rfl (.t rfl) (fun hg12 => .fldPF G_api_Algebra.l3 (fun x => x.Macs) fd32_3 rfl (fun _ => rfl) (.t rfl) rfl) ?_
  refine .go 11 rfl (.t rfl) (fun hg13 => .ldP ty29 (.o rfl (beq_iff_eq.2 hg13)) rfl) ?_
  refine .go 11 rfl (.t rfl) (fun hg14 => .len Tryd.underlying29 (.o rfl (beq_iff_eq.2 hg14)) rfl) ?_
  refine .go 11 rfl (.t rfl) (fun hg15 => .gtr (.o rfl (beq_iff_eq.2 hg15)) (.i rfl) rfl) ?_
  refine .p (.pickAnd (.t rfl) (fun hp => (.o rfl (beq_iff_eq.2 hp))) (.p (.assign (.t rfl) ?_)))
  refine .nil ?_
  refine .cond (.t rfl) (fun hc8 => ?_) (fun hc8 => ?_)
  · refine .seq ?_
    have hm3 : 0 < (a.Macs.length : Int) := by simp at hc8; omega
    have hle3 := deckNext_le (d := (deckNext d 4).2) hm3
    have hok3 := deckNext_ok (n := (a.Macs.length : Int)) hok1
    refine .drawCF [false, false, true] (by kernel_rfl) 10 [[], [(17, 0)], [], [], [(20, 3)], [(21, 4)], [(19, 2), (22, 5)], [(18, 1), (23, 6)], [(24, 7)], [(25, 8)]] [6, 7, 8, 9] rfl (by kernel_rfl) rfl (by kernel_rfl) (by decide) ?_
    refine ⟨_, fun H => OpP.fldPF G_api_Algebra.l3 (fun x => x.Macs) fd32_3 rfl (fun _ => rfl) (.t rfl) rfl, ?_⟩
    refine ⟨_, fun H => OpP.ldP ty29 (.t rfl) rfl, ?_⟩
    refine ⟨_, fun H => OpP.move (.t rfl) rfl, ?_⟩
    refine ⟨_, fun H => OpP.fldPF G_api_Algebra.l3 (fun x => x.Macs) fd32_3 rfl (fun _ => rfl) (.t rfl) rfl, ?_⟩
    refine ⟨_, fun H => OpP.ldP ty29 (.t rfl) rfl, ?_⟩
    refine ⟨_, fun H => OpP.len Tryd.underlying29 (.t rfl) rfl, ?_⟩
    refine .inl ?_
    refine .inl ?_
    refine .inl ?_
    refine .inl ?_
    refine ⟨⟨([], fun k => List.getD [(true, .none_), (true, .none_), _] k (true, .none_)), rfl⟩, ?_⟩
    refine OpH.callM hG (Next_c _ _ _ (by assumption) (by first | omega | (simp; done) | (simp; omega) | (simp at *; omega)) (by first | omega | (simp; done) | (simp; omega) | (simp at *; omega))) (.s (.s .z)) (.cons (.t rfl) (.cons (.t rfl) .nil)) (by rintro _ _ ⟨_, rfl⟩; exact ⟨_, rfl⟩) fun r23 B23 hr23 => ?_
    obtain ⟨rfl, hB⟩ := hr23
    cases hB
    refine ⟨⟨([], fun k => List.getD [(true, .none_), (true, .none_), _] k (true, .none_)), rfl⟩, ?_⟩
    refine OpH.ofP (OpP.idx ty38 Tryd.underlying29 (.t rfl) (.t rfl) (by first | omega | (simp; done) | (simp; omega) | (simp at *; omega)) (by first | omega | (simp; done) | (simp; omega) | (simp at *; omega)) ?_)
    refine ⟨⟨([], fun k => List.getD [(true, .none_), (true, .none_), _] k (true, .none_)), rfl⟩, ?_⟩
    refine OpH.ofP (OpP.fldPF G_api_Mac.l2 (fun x => x.Tag) fd38_2 rfl (fun _ => rfl) (.t rfl) ?_)
    refine ⟨⟨([], fun k => List.getD [(true, .none_), (true, .none_), _] k (true, .none_)), rfl⟩, ?_⟩
    refine OpH.ofP (OpP.ldP ty28 (.t rfl) ?_)
    refine ⟨⟨([], fun k => List.getD [(true, .none_), (true, .none_), _] k (true, .none_)), rfl⟩, ?_⟩
    show wpB _ _ _ _ _ _ ((26, _) :: (25, _) :: (24, _) :: (23, _) :: (22, _) :: (21, _) :: (20, _) :: (19, _) :: (18, _) :: (17, _) :: _) _
    refine .n (.stW ty28 (.t rfl) (.t rfl) .z ?_)
    refine .nil ?_
    refine .ret ?_
    refine ⟨_, .r1 rfl (.cell ty28 rfl .z), ?_⟩
    exact ⟨2, _, _, by assumption, rfl, rfl⟩
  · refine .seq ?_
    refine .region rfl ?_
    refine .p (.move (.t rfl) (.p (.eqlI (.t rfl) (.i rfl) (.p (.move (.t rfl) ?_)))))
    refine .go 30 rfl (.t rfl) (fun hg31 => .fldPF G_api_Algebra.l3 (fun x => x.Macs) fd32_3 rfl (fun _ => rfl) (.t rfl) rfl) ?_
    refine .go 30 rfl (.t rfl) (fun hg32 => .ldP ty29 (.o rfl (beq_iff_eq.2 hg32)) rfl) ?_
    refine .go 30 rfl (.t rfl) (fun hg33 => .len Tryd.underlying29 (.o rfl (beq_iff_eq.2 hg33)) rfl) ?_
    refine .go 30 rfl (.t rfl) (fun hg34 => .gtr (.o rfl (beq_iff_eq.2 hg34)) (.i rfl) rfl) ?_
    refine .p (.pickAnd (.t rfl) (fun hp => (.o rfl (beq_iff_eq.2 hp))) (.p (.assign (.t rfl) ?_)))
    refine .nil ?_
    refine .cond (.t rfl) (fun hc27 => ?_) (fun hc27 => ?_)
    · refine .seq ?_
      have hm5 : 0 < (a.Macs.length : Int) := by simp at hc27; omega
      have hle5 := deckNext_le (d := (deckNext d 4).2) hm5
      have hok3 := deckNext_ok (n := (a.Macs.length : Int)) hok1
      refine .drawCF [false, false, true] (by kernel_rfl) 10 [[], [(36, 0)], [], [], [(39, 3)], [(40, 4)], [(38, 2), (41, 5)], [(37, 1), (42, 6)], [(43, 7)], [(44, 8)]] [6, 7, 8, 9] rfl (by kernel_rfl) rfl (by kernel_rfl) (by decide) ?_
      refine ⟨_, fun H => OpP.fldPF G_api_Algebra.l3 (fun x => x.Macs) fd32_3 rfl (fun _ => rfl) (.t rfl) rfl, ?_⟩
      refine ⟨_, fun H => OpP.ldP ty29 (.t rfl) rfl, ?_⟩
      refine ⟨_, fun H => OpP.move (.t rfl) rfl, ?_⟩
      refine ⟨_, fun H => OpP.fldPF G_api_Algebra.l3 (fun x => x.Macs) fd32_3 rfl (fun _ => rfl) (.t rfl) rfl, ?_⟩
      refine ⟨_, fun H => OpP.ldP ty29 (.t rfl) rfl, ?_⟩
      refine ⟨_, fun H => OpP.len Tryd.underlying29 (.t rfl) rfl, ?_⟩
      refine .inl ?_
      refine .inl ?_
      refine .inl ?_
      refine .inl ?_
      refine ⟨⟨([], fun k => List.getD [(true, .none_), (true, .none_), _] k (true, .none_)), rfl⟩, ?_⟩
      refine OpH.callM hG (Next_c _ _ _ (by assumption) (by first | omega | (simp; done) | (simp; omega) | (simp at *; omega)) (by first | omega | (simp; done) | (simp; omega) | (simp at *; omega))) (.s (.s .z)) (.cons (.t rfl) (.cons (.t rfl) .nil)) (by rintro _ _ ⟨_, rfl⟩; exact ⟨_, rfl⟩) fun r42 B42 hr42 => ?_
      obtain ⟨rfl, hB⟩ := hr42
      cases hB
      refine ⟨⟨([], fun k => List.getD [(true, .none_), (true, .none_), _] k (true, .none_)), rfl⟩, ?_⟩
      refine OpH.ofP (OpP.idx ty38 Tryd.underlying29 (.t rfl) (.t rfl) (by first | omega | (simp; done) | (simp; omega) | (simp at *; omega)) (by first | omega | (simp; done) | (simp; omega) | (simp at *; omega)) ?_)
      refine ⟨⟨([], fun k => List.getD [(true, .none_), (true, .none_), _] k (true, .none_)), rfl⟩, ?_⟩
      refine OpH.ofP (OpP.fldPF G_api_Mac.l0 (fun x => x.Key) fd38_0 rfl (fun _ => rfl) (.t rfl) ?_)
      refine ⟨⟨([], fun k => List.getD [(true, .none_), (true, .none_), _] k (true, .none_)), rfl⟩, ?_⟩
      refine OpH.ofP (OpP.ldP ty28 (.t rfl) ?_)
      refine ⟨⟨([], fun k => List.getD [(true, .none_), (true, .none_), _] k (true, .none_)), rfl⟩, ?_⟩
      show wpB _ _ _ _ _ _ ((45, _) :: (44, _) :: (43, _) :: (42, _) :: (41, _) :: (40, _) :: (39, _) :: (38, _) :: (37, _) :: (36, _) :: _) _
      refine .n (.stW ty28 (.t rfl) (.t rfl) .z ?_)
      refine .nil ?_
      refine .ret ?_
      refine ⟨_, .r1 rfl (.cell ty28 rfl .z), ?_⟩
      exact ⟨2, _, _, by assumption, rfl, rfl⟩
    · refine .seq ?_
      refine .region rfl ?_
      refine .p (.move (.t rfl) (.p (.eqlI (.t rfl) (.i rfl) (.p (.move (.t rfl) ?_)))))
      refine .go 49 rfl (.t rfl) (fun hg50 => .fldPF G_api_Algebra.l4 (fun x => x.Boxes) fd32_4 rfl (fun _ => rfl) (.t rfl) rfl) ?_
      refine .go 49 rfl (.t rfl) (fun hg51 => .ldP ty30 (.o rfl (beq_iff_eq.2 hg51)) rfl) ?_
      refine .go 49 rfl (.t rfl) (fun hg52 => .len Tryd.underlying30 (.o rfl (beq_iff_eq.2 hg52)) rfl) ?_
      refine .go 49 rfl (.t rfl) (fun hg53 => .gtr (.o rfl (beq_iff_eq.2 hg53)) (.i rfl) rfl) ?_
      refine .p (.pickAnd (.t rfl) (fun hp => (.o rfl (beq_iff_eq.2 hp))) (.p (.assign (.t rfl) ?_)))
      refine .nil ?_
      refine .cond (.t rfl) (fun hc46 => ?_) (fun hc46 => ?_)
      · refine .seq ?_
        have hm7 : 0 < (a.Boxes.length : Int) := by simp at hc46; omega
        have hle7 := deckNext_le (d := (deckNext d 4).2) hm7
        have hok3 := deckNext_ok (n := (a.Boxes.length : Int)) hok1
        refine .drawCF [false, false, true] (by kernel_rfl) 10 [[], [(55, 0)], [], [], [(58, 3)], [(59, 4)], [(57, 2), (60, 5)], [(56, 1), (61, 6)], [(62, 7)], [(63, 8)]] [6, 7, 8, 9] rfl (by kernel_rfl) rfl (by kernel_rfl) (by decide) ?_
        refine ⟨_, fun H => OpP.fldPF G_api_Algebra.l4 (fun x => x.Boxes) fd32_4 rfl (fun _ => rfl) (.t rfl) rfl, ?_⟩
        refine ⟨_, fun H => OpP.ldP ty30 (.t rfl) rfl, ?_⟩
        refine ⟨_, fun H => OpP.move (.t rfl) rfl, ?_⟩
        refine ⟨_, fun H => OpP.fldPF G_api_Algebra.l4 (fun x => x.Boxes) fd32_4 rfl (fun _ => rfl) (.t rfl) rfl, ?_⟩
        refine ⟨_, fun H => OpP.ldP ty30 (.t rfl) rfl, ?_⟩
        refine ⟨_, fun H => OpP.len Tryd.underlying30 (.t rfl) rfl, ?_⟩
        refine .inl ?_
        refine .inl ?_
        refine .inl ?_
        refine .inl ?_
        refine ⟨⟨([], fun k => List.getD [(true, .none_), (true, .none_), _] k (true, .none_)), rfl⟩, ?_⟩
        refine OpH.callM hG (Next_c _ _ _ (by assumption) (by first | omega | (simp; done) | (simp; omega) | (simp at *; omega)) (by first | omega | (simp; done) | (simp; omega) | (simp at *; omega))) (.s (.s .z)) (.cons (.t rfl) (.cons (.t rfl) .nil)) (by rintro _ _ ⟨_, rfl⟩; exact ⟨_, rfl⟩) fun r61 B61 hr61 => ?_
        obtain ⟨rfl, hB⟩ := hr61
        cases hB
        refine ⟨⟨([], fun k => List.getD [(true, .none_), (true, .none_), _] k (true, .none_)), rfl⟩, ?_⟩
        refine OpH.ofP (OpP.idx ty56 Tryd.underlying30 (.t rfl) (.t rfl) (by first | omega | (simp; done) | (simp; omega) | (simp at *; omega)) (by first | omega | (simp; done) | (simp; omega) | (simp at *; omega)) ?_)
        refine ⟨⟨([], fun k => List.getD [(true, .none_), (true, .none_), _] k (true, .none_)), rfl⟩, ?_⟩
        refine OpH.ofP (OpP.fldPF G_api_Sealed.l0 (fun x => x.Key) fd56_0 rfl (fun _ => rfl) (.t rfl) ?_)
        refine ⟨⟨([], fun k => List.getD [(true, .none_), (true, .none_), _] k (true, .none_)), rfl⟩, ?_⟩
        refine OpH.ofP (OpP.ldP ty28 (.t rfl) ?_)
        refine ⟨⟨([], fun k => List.getD [(true, .none_), (true, .none_), _] k (true, .none_)), rfl⟩, ?_⟩
        show wpB _ _ _ _ _ _ ((64, _) :: (63, _) :: (62, _) :: (61, _) :: (60, _) :: (59, _) :: (58, _) :: (57, _) :: (56, _) :: (55, _) :: _) _
        refine .n (.stW ty28 (.t rfl) (.t rfl) .z ?_)
        refine .nil ?_
        refine .ret ?_
        refine ⟨_, .r1 rfl (.cell ty28 rfl .z), ?_⟩
        exact ⟨2, _, _, by assumption, rfl, rfl⟩
      · refine .skip ?_
        refine .seq ?_
        refine .region rfl ?_
        refine .p (.move (.t rfl) (.h (.callM hG (Tag_deck_c _ _ (by assumption)) (.s (.s .z)) (.cons (.t rfl) .nil) (by rintro _ _ ⟨_, _, _, _, rfl⟩; exact ⟨_, rfl⟩) fun r66 B66 hr66 => ?_)))
        obtain ⟨t66, e66, hok66, rfl, hB⟩ := hr66
        cases hB
        refine .n (.stW ty28 (.t rfl) (.t rfl) .z ?_)
        refine .nil ?_
        refine .ret ?_
        refine ⟨_, .r1 rfl (.cell ty28 rfl .z), ?_⟩
        exact ⟨2, _, _, by assumption, rfl, rfl⟩
end Go.Proofs.YtiekhjbhlekaeaaDoor
