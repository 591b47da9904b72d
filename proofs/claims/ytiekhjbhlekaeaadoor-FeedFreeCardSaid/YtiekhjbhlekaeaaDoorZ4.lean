/- Plain Lean over any program, and walks of this seat's functions: contracts, each proved once (part 4). -/
import Derived.Test.YtiekhjbhlekaeaaDoorZ3
import Derived.ProofKit
import Derived.OpenShut
import Derived.ShutString
import Derived.ChangeOld
import Derived.Below
import Derived.LaidLaws
import Derived.Handed
import Derived.DataReads
import Derived.Test.YtiekhjbhlekaeaaDoorRows
import Derived.Test.YtiekhjbhlekaeaaDoorTie
import Derived.Test.YtiekhjbhlekaeaaDoorCards
import Derived.SevenTiedAt
set_option maxRecDepth 1000000
set_option linter.unusedVariables false
set_option linter.unusedSimpArgs false
namespace Go.Proofs.YtiekhjbhlekaeaaDoor
open Go.Fl Go.Ab Go.Mac Go.Sha
theorem made24_c (w : Value) (d : G_macaroonmade_Deck) (hd : DeckOk d) : FunH gl Tryd.prog 43 [dk w] [.ob w d] (fun r Hs => ∃ x : Item, (itemErr x = 0 ∧ x.Box.length ≤ 20) ∧ ∃ d', DeckOk d' ∧ r = .v x ∧ Hs = [.ob w d']) := by
  refine FunH.introS Tryd.func43 rfl (by kernel_rfl) 32 rfl rfl _ rfl _ rfl fun C hC hG => ?_
  refine .seq ?_
  refine .region rfl ?_
  refine .h (.alloc ty67 fun b2 => ?_)
  refine .nil ?_
  refine .seq ?_
  refine .region rfl ?_
  refine .p (.move (.t rfl) (.h (.callM hG (Range_e _ _ _ _ (by first | assumption | exact deckNew_ok _) (by first | omega | (simp; done) | (simp; omega) | (simp at *; omega)) (by first | omega | (simp; done) | (simp; omega) | (simp at *; omega)) (by first | omega | (simp; done) | (simp; omega) | (simp at *; omega))) (.s .z) (.cons (.t rfl) (.cons (.i rfl) (.cons (.i rfl) .nil))) (by rintro _ _ ⟨_, _, _, _, _, _, rfl⟩; exact ⟨_, rfl⟩) fun r5 B5 hr5 => ?_)))
  obtain ⟨v5, d5, h05, h15, hd5, rfl, hB⟩ := hr5
  cases hB
  refine .p (.move (.t rfl) (.h (.callM hG (Range_e _ _ _ _ (by first | assumption | exact deckNew_ok _) (by first | omega | (simp; done) | (simp; omega) | (simp at *; omega)) (by first | omega | (simp; done) | (simp; omega) | (simp at *; omega)) (by first | omega | (simp; done) | (simp; omega) | (simp at *; omega))) (.s .z) (.cons (.t rfl) (.cons (.i rfl) (.cons (.i rfl) .nil))) (by rintro _ _ ⟨_, _, _, _, _, _, rfl⟩; exact ⟨_, rfl⟩) fun r7 B7 hr7 => ?_)))
  obtain ⟨v7, d7, h07, h17, hd7, rfl, hB⟩ := hr7
  cases hB
  refine .p (.bS2 G_api_Item.l0 G_api_Item.l1 rfl ty67 fo67 (fun c0 c1 => (⟨c0, c1, 0, default, [], default⟩ : G_api_Item)) (fun _ _ => rfl) rfl rfl rfl (.t rfl) (.t rfl) (.h (.alloc ty67 fun b3 => .n (.stW ty67 (.t rfl) (.t rfl) .z ?_))))
  refine .nil ?_
  refine .seq ?_
  refine .seq ?_
  refine .region rfl ?_
  refine .p (.fldW G_api_Item.l1 fd67_1 rfl (.t rfl) (.p (.ldF (fun x => x.Kind) ty3 (.t rfl) .z (fun _ => rfl) ?_)))
  refine .nil ?_
  refine .block ?_
  refine .seq ?_
  refine .region rfl ?_
  refine .p (.eqlI (.t rfl) (.i rfl) (.p (.assign (.t rfl) ?_)))
  refine .nil ?_
  refine .condP (.t rfl) (fun hc11 => ?_) (fun hc11 => ?_)
  · refine .region rfl ?_
    refine .p (.move (.t rfl) (.h (.callM hG (Range_e _ _ _ _ (by first | assumption | exact deckNew_ok _) (by first | omega | (simp; done) | (simp; omega) | (simp at *; omega)) (by first | omega | (simp; done) | (simp; omega) | (simp at *; omega)) (by first | omega | (simp; done) | (simp; omega) | (simp at *; omega))) (.s (.s .z)) (.cons (.t rfl) (.cons (.i rfl) (.cons (.i rfl) .nil))) (by rintro _ _ ⟨_, _, _, _, _, _, rfl⟩; exact ⟨_, rfl⟩) fun r14 B14 hr14 => ?_)))
    obtain ⟨v14, d14, h014, h114, hd14, rfl, hB⟩ := hr14
    cases hB
    refine .p (.move (.t rfl) (.h (.callMN hG (Bytes_own _ _ _ (by first | assumption | exact deckNew_ok _) (by first | omega | (simp; done) | (simp; omega) | (simp at *; omega)) (by first | omega | (simp; done) | (simp; omega) | (simp at *; omega))) (.s (.s .z)) (.cons (.t rfl) (.cons (.i rfl) .nil)) (by rintro _ _ ⟨_, _, _, _, _, _, rfl⟩; exact ⟨_, _, rfl⟩) fun r16 Bn16 B16 hr16 => ?_)))
    obtain ⟨u16, l16, hl16, d16, hd16, rfl, hB⟩ := hr16
    cases hB
    show wpB _ _ _ _ _ _ _ ((true, _) :: _)
    refine .h (.buildSlice (α := UInt8) ty5 Tryd.underlying23 (.cons (.u8 1 rfl) .nil) rfl (by decide) fun b17 => .h (.append st23 (.inl ⟨_, Tryd.underlying23⟩) rfl (.s .z) (.own rfl .z) (by first | omega | (simp; done) | (simp; omega) | (simp at *; omega)) (by first | omega | (simp; done) | (simp; omega) | (simp at *; omega)) (fun w18 => .p (.fldW G_api_Item.l2 fd67_2 rfl (.t rfl) (.n (.stF (fun y x => { x with Number := y }) ty3 (.t rfl) (.t rfl) (.s (.s .z)) (fun _ _ => rfl) ?_)))) rfl))
    refine .frzOwn hC (.s .z) ?_
    refine .as 18 rfl (.s .z) ?_
    refine .p (.fldW G_api_Item.l4 fd67_4 rfl (.t rfl) (.n (.stF (fun y x => { x with Box := y }) ty23 (.t rfl) (.t rfl) (.s (.s .z)) (fun _ _ => rfl) ?_)))
    refine .nil ?_
    refine .seq ?_
    refine .region rfl ?_
    refine .p (.ldW ty67 (.t rfl) (.s (.s .z)) (.n (.stW ty67 (.t rfl) (.t rfl) (.s (.s (.s .z))) ?_)))
    refine .nil ?_
    refine .ret ?_
    refine ⟨_, .r1 rfl (.cell ty67 rfl (.s (.s (.s .z)))), ?_⟩
    refine ⟨_, .cons (.s (.s (.s (.s .z)))) (.nil), ?_⟩
    refine ⟨_, ⟨?_, ?_⟩, _, by assumption, rfl, rfl⟩
    · unfold itemErr; dsimp only at *; (repeat' split) <;> first | rfl | (simp_all; done) | (exfalso; simp at *; omega)
    · dsimp only; simp; try omega
  · refine .seq ?_
    refine .region rfl ?_
    refine .p (.eqlI (.t rfl) (.i rfl) (.p (.assign (.t rfl) ?_)))
    refine .nil ?_
    refine .condP (.t rfl) (fun hc21 => ?_) (fun hc21 => ?_)
    · refine .region rfl ?_
      refine .p (.move (.t rfl) (.h (.callM hG (Range_e _ _ _ _ (by first | assumption | exact deckNew_ok _) (by first | omega | (simp; done) | (simp; omega) | (simp at *; omega)) (by first | omega | (simp; done) | (simp; omega) | (simp at *; omega)) (by first | omega | (simp; done) | (simp; omega) | (simp at *; omega))) (.s (.s .z)) (.cons (.t rfl) (.cons (.i rfl) (.cons (.i rfl) .nil))) (by rintro _ _ ⟨_, _, _, _, _, _, rfl⟩; exact ⟨_, rfl⟩) fun r24 B24 hr24 => ?_)))
      obtain ⟨v24, d24, h024, h124, hd24, rfl, hB⟩ := hr24
      cases hB
      refine .p (.fldW G_api_Item.l2 fd67_2 rfl (.t rfl) (.n (.stF (fun y x => { x with Number := y }) ty3 (.t rfl) (.t rfl) .z (fun _ _ => rfl) ?_)))
      refine .nil ?_
      refine .seq ?_
      refine .region rfl ?_
      refine .p (.ldW ty67 (.t rfl) .z (.n (.stW ty67 (.t rfl) (.t rfl) (.s .z) ?_)))
      refine .nil ?_
      refine .ret ?_
      refine ⟨_, .r1 rfl (.cell ty67 rfl (.s .z)), ?_⟩
      refine ⟨_, .cons (.s (.s .z)) (.nil), ?_⟩
      refine ⟨_, ⟨?_, ?_⟩, _, by assumption, rfl, rfl⟩
      · unfold itemErr; dsimp only at *; (repeat' split) <;> first | rfl | (simp_all; done) | (exfalso; simp at *; omega)
      · dsimp only; simp; try omega
    · refine .seq ?_
      refine .region rfl ?_
      refine .p (.eqlI (.t rfl) (.i rfl) (.p (.assign (.t rfl) ?_)))
      refine .nil ?_
      refine .condP (.t rfl) (fun hc26 => ?_) (fun hc26 => ?_)
      · refine .region rfl ?_
        refine .p (.move (.t rfl) (.h (.callM hG (Tag_deck_c _ _ (by first | assumption | exact deckNew_ok _)) (.s (.s .z)) (.cons (.t rfl) .nil) (by rintro _ _ ⟨_, _, _, _, rfl⟩; exact ⟨_, rfl⟩) fun r29 B29 hr29 => ?_)))
        obtain ⟨k29, d29, hd29, rfl, hB⟩ := hr29
        cases hB
        refine .p (.fldW G_api_Item.l3 fd67_3 rfl (.t rfl) (.n (.stF (fun y x => { x with Node := y }) ty28 (.t rfl) (.t rfl) .z (fun _ _ => rfl) ?_)))
        refine .nil ?_
        refine .seq ?_
        refine .region rfl ?_
        refine .p (.ldW ty67 (.t rfl) .z (.n (.stW ty67 (.t rfl) (.t rfl) (.s .z) ?_)))
        refine .nil ?_
        refine .ret ?_
        refine ⟨_, .r1 rfl (.cell ty67 rfl (.s .z)), ?_⟩
        refine ⟨_, .cons (.s (.s .z)) (.nil), ?_⟩
        refine ⟨_, ⟨?_, ?_⟩, _, by assumption, rfl, rfl⟩
        · unfold itemErr; dsimp only at *; (repeat' split) <;> first | rfl | (simp_all; done) | (exfalso; simp at *; omega)
        · dsimp only; simp; try omega
      · refine .skip ?_
        refine .seq ?_
        refine .region rfl ?_
        refine .p (.ldW ty67 (.t rfl) .z (.n (.stW ty67 (.t rfl) (.t rfl) (.s .z) ?_)))
        refine .nil ?_
        refine .ret ?_
        refine ⟨_, .r1 rfl (.cell ty67 rfl (.s .z)), ?_⟩
        exfalso; dsimp only at *; omega
theorem pick24 (i : Nat) (h : i < 4) : 0 ≤ ([0, 1, 1024, 1025] : List Int)[i] ∧ ([0, 1, 1024, 1025] : List Int)[i] ≤ 1025 := by
  rcases i with _ | _ | _ | _ | i <;> simp <;> omega
theorem spoilt24_c (w : Value) (d : G_macaroonmade_Deck) (hd : DeckOk d) (x : Item) (n : Int) : FunH gl Tryd.prog 44 [.v x, dk w, .v n] [.ob w d] (fun r Hs => ∃ y : Item, y.Box.length ≤ max 1025 x.Box.length ∧ ∃ d', DeckOk d' ∧ r = .v y ∧ Hs = [.ob w d']) := by
  refine FunH.introS Tryd.func44 rfl (by kernel_rfl) 56 rfl rfl _ rfl _ rfl fun C hC hG => ?_
  refine .seq ?_
  refine .region rfl ?_
  refine .h (.box (.t rfl) fun b3 => .h (.alloc ty67 fun b6 => ?_))
  refine .nil ?_
  refine .seq ?_
  refine .seq ?_
  refine .region rfl ?_
  refine .p (.move (.t rfl) (.h (.callM hG (Next_e _ _ _ (by first | assumption | exact deckNew_ok _) (by first | omega | (simp; done) | (simp; omega) | (simp at *; omega)) (by first | omega | (simp; done) | (simp; omega) | (simp at *; omega))) (.s (.s .z)) (.cons (.t rfl) (.cons (.i rfl) .nil)) (by rintro _ _ ⟨_, _, _, _, _, _, rfl⟩; exact ⟨_, rfl⟩) fun r8 B8 hr8 => ?_)))
  obtain ⟨v8, d8, h08, h18, hd8, rfl, hB⟩ := hr8
  cases hB
  refine .nil ?_
  refine .block ?_
  refine .seq ?_
  refine .region rfl ?_
  refine .p (.eqlI (.t rfl) (.i rfl) (.p (.assign (.t rfl) ?_)))
  refine .nil ?_
  refine .condP (.t rfl) (fun hc9 => ?_) (fun hc9 => ?_)
  · refine .region rfl ?_
    refine .p (.move (.t rfl) (.p (.fldW G_api_Item.l0 fd67_0 rfl (.t rfl) (.n (.stF (fun y x => { x with Place := y }) ty3 (.t rfl) (.t rfl) (.s .z) (fun _ _ => rfl) ?_)))))
    refine .nil ?_
    refine .seq ?_
    refine .region rfl ?_
    refine .p (.ldW ty67 (.t rfl) (.s .z) (.n (.stW ty67 (.t rfl) (.t rfl) .z ?_)))
    refine .nil ?_
    refine .ret ?_
    refine ⟨_, .r1 rfl (.cell ty67 rfl .z), ?_⟩
    refine ⟨_, .cons (.s (.s .z)) (.nil), ?_⟩
    exact ⟨_, by first | exact Nat.le_max_right _ _ | (simp; omega), _, by assumption, rfl, rfl⟩
  · refine .seq ?_
    refine .region rfl ?_
    refine .p (.eqlI (.t rfl) (.i rfl) (.p (.assign (.t rfl) ?_)))
    refine .nil ?_
    refine .condP (.t rfl) (fun hc13 => ?_) (fun hc13 => ?_)
    · refine .region rfl ?_
      refine .p (.move (.t rfl) (.h (.callM hG (Next_e _ _ _ (by first | assumption | exact deckNew_ok _) (by first | omega | (simp; done) | (simp; omega) | (simp at *; omega)) (by first | omega | (simp; done) | (simp; omega) | (simp at *; omega))) (.s (.s .z)) (.cons (.t rfl) (.cons (.i rfl) .nil)) (by rintro _ _ ⟨_, _, _, _, _, _, rfl⟩; exact ⟨_, rfl⟩) fun r16 B16 hr16 => ?_)))
      obtain ⟨v16, d16, h016, h116, hd16, rfl, hB⟩ := hr16
      cases hB
      refine .p (.fldW G_api_Item.l1 fd67_1 rfl (.t rfl) (.n (.stF (fun y x => { x with Kind := y }) ty3 (.t rfl) (.t rfl) (.s .z) (fun _ _ => rfl) ?_)))
      refine .nil ?_
      refine .seq ?_
      refine .region rfl ?_
      refine .p (.ldW ty67 (.t rfl) (.s .z) (.n (.stW ty67 (.t rfl) (.t rfl) .z ?_)))
      refine .nil ?_
      refine .ret ?_
      refine ⟨_, .r1 rfl (.cell ty67 rfl .z), ?_⟩
      refine ⟨_, .cons (.s (.s .z)) (.nil), ?_⟩
      exact ⟨_, by first | exact Nat.le_max_right _ _ | (simp; omega), _, by assumption, rfl, rfl⟩
    · refine .seq ?_
      refine .region rfl ?_
      refine .p (.eqlI (.t rfl) (.i rfl) (.p (.assign (.t rfl) ?_)))
      refine .nil ?_
      refine .condP (.t rfl) (fun hc18 => ?_) (fun hc18 => ?_)
      · refine .region rfl ?_
        refine .p (.move (.t rfl) (.p (.fldW G_api_Item.l2 fd67_2 rfl (.t rfl) (.n (.stF (fun y x => { x with Number := y }) ty3 (.t rfl) (.t rfl) (.s .z) (fun _ _ => rfl) ?_)))))
        refine .nil ?_
        refine .seq ?_
        refine .region rfl ?_
        refine .p (.ldW ty67 (.t rfl) (.s .z) (.n (.stW ty67 (.t rfl) (.t rfl) .z ?_)))
        refine .nil ?_
        refine .ret ?_
        refine ⟨_, .r1 rfl (.cell ty67 rfl .z), ?_⟩
        refine ⟨_, .cons (.s (.s .z)) (.nil), ?_⟩
        exact ⟨_, by first | exact Nat.le_max_right _ _ | (simp; omega), _, by assumption, rfl, rfl⟩
      · refine .seq ?_
        refine .region rfl ?_
        refine .p (.eqlI (.t rfl) (.i rfl) (.p (.assign (.t rfl) ?_)))
        refine .nil ?_
        refine .condP (.t rfl) (fun hc22 => ?_) (fun hc22 => ?_)
        · refine .region rfl ?_
          refine .p (.fldW G_api_Item.l3 fd67_3 rfl (.t rfl) (.p (.idxL ar28 (.t rfl) (.i rfl) (by first | omega | (simp; done) | (simp; omega) | (simp at *; omega)) (by first | omega | (simp; done) | (simp; omega) | (simp at *; omega)) (.p (.ldL ty5 (.t rfl) (.s .z) (.p (.xor8 (.t rfl) (.u8 1 rfl) (.p (.fldW G_api_Item.l3 fd67_3 rfl (.t rfl) (.p (.idxL ar28 (.t rfl) (.i rfl) (by first | omega | (simp; done) | (simp; omega) | (simp at *; omega)) (by first | omega | (simp; done) | (simp; omega) | (simp at *; omega)) ?_)))))))))))
          refine .n (.stL ty5 (.t rfl) (.t rfl) (.s .z) ?_)
          refine .nil ?_
          refine .seq ?_
          refine .region rfl ?_
          refine .p (.ldW ty67 (.t rfl) (.s .z) (.n (.stW ty67 (.t rfl) (.t rfl) .z ?_)))
          refine .nil ?_
          refine .ret ?_
          refine ⟨_, .r1 rfl (.cell ty67 rfl .z), ?_⟩
          refine ⟨_, .cons (.s (.s .z)) (.nil), ?_⟩
          exact ⟨_, by first | exact Nat.le_max_right _ _ | (simp; omega), _, by assumption, rfl, rfl⟩
        · refine .seq ?_
          refine .region rfl ?_
          refine .p (.eqlI (.t rfl) (.i rfl) (.p (.assign (.t rfl) ?_)))
          refine .nil ?_
          refine .condP (.t rfl) (fun hc30 => ?_) (fun hc30 => ?_)
          · refine .region rfl ?_
            refine .h (.buildSlice (α := Int) ty3 Tryd.underlying22 (.cons (.i rfl) (.cons (.i rfl) (.cons (.i rfl) (.cons (.i rfl) .nil)))) rfl (by decide) fun b32 => .p (.move (.t rfl) (.h (.callM hG (Next_e _ _ _ (by first | assumption | exact deckNew_ok _) (by first | omega | (simp; done) | (simp; omega) | (simp at *; omega)) (by first | omega | (simp; done) | (simp; omega) | (simp at *; omega))) (.s (.s (.s .z))) (.cons (.t rfl) (.cons (.i rfl) .nil)) (by rintro _ _ ⟨_, _, _, _, _, _, rfl⟩; exact ⟨_, rfl⟩) fun r34 B34 hr34 => ?_))))
            obtain ⟨v34, d34, h034, h134, hd34, rfl, hB⟩ := hr34
            cases hB
            refine .p (.idxOwn ty3 Tryd.underlying22 rfl .z (.t rfl) (by first | omega | (simp; done) | (simp; omega) | (simp at *; omega)) (by first | omega | (simp; done) | (simp; omega) | (simp at *; omega)) (.p (.ldEW ty3 (.t rfl) .z (by first | omega | (simp; done) | (simp; omega) | (simp at *; omega)) ?_)))
            obtain ⟨z1, z2⟩ := pick24 v34.toNat (by omega)
            refine .h (.make st23 (.t rfl) (by first | omega | (simp; done) | (simp; omega) | (simp at *; omega)) (by first | omega | (simp; done) | (simp; omega) | (simp at *; omega)) (by first | omega | (simp; done) | (simp; omega) | (simp at *; omega)) fun b37 => .p (.fldW G_api_Item.l4 fd67_4 rfl (.t rfl) ?_))
            refine .frzOwn hC .z ?_
            refine .as 37 rfl .z ?_
            refine .n (.stF (fun y x => { x with Box := y }) ty23 (.t rfl) (.t rfl) (.s (.s (.s .z))) (fun _ _ => rfl) ?_)
            refine .nil ?_
            refine .seq ?_
            refine .region rfl ?_
            refine .p (.ldW ty67 (.t rfl) (.s (.s (.s .z))) (.n (.stW ty67 (.t rfl) (.t rfl) (.s (.s .z)) ?_)))
            refine .nil ?_
            refine .ret ?_
            refine ⟨_, .r1 rfl (.cell ty67 rfl (.s (.s .z))), ?_⟩
            refine ⟨_, .cons (.s (.s (.s (.s .z)))) (.nil), ?_⟩
            exact ⟨_, by first | exact Nat.le_max_right _ _ | (simp; omega), _, by assumption, rfl, rfl⟩
          · refine .seq ?_
            refine .region rfl ?_
            refine .p (.eqlI (.t rfl) (.i rfl) (.p (.assign (.t rfl) ?_)))
            refine .nil ?_
            refine .condP (.t rfl) (fun hc39 => ?_) (fun hc39 => ?_)
            · refine .region rfl ?_
              refine .p (.fldW G_api_Item.l5 fd67_5 rfl (.t rfl) (.p (.idxL ar28 (.t rfl) (.i rfl) (by first | omega | (simp; done) | (simp; omega) | (simp at *; omega)) (by first | omega | (simp; done) | (simp; omega) | (simp at *; omega)) (.p (.ldL ty5 (.t rfl) (.s .z) (.p (.xor8 (.t rfl) (.u8 1 rfl) (.p (.fldW G_api_Item.l5 fd67_5 rfl (.t rfl) (.p (.idxL ar28 (.t rfl) (.i rfl) (by first | omega | (simp; done) | (simp; omega) | (simp at *; omega)) (by first | omega | (simp; done) | (simp; omega) | (simp at *; omega)) ?_)))))))))))
              refine .n (.stL ty5 (.t rfl) (.t rfl) (.s .z) ?_)
              refine .nil ?_
              refine .seq ?_
              refine .region rfl ?_
              refine .p (.ldW ty67 (.t rfl) (.s .z) (.n (.stW ty67 (.t rfl) (.t rfl) .z ?_)))
              refine .nil ?_
              refine .ret ?_
              refine ⟨_, .r1 rfl (.cell ty67 rfl .z), ?_⟩
              refine ⟨_, .cons (.s (.s .z)) (.nil), ?_⟩
              exact ⟨_, by first | exact Nat.le_max_right _ _ | (simp; omega), _, by assumption, rfl, rfl⟩
            · refine .seq ?_
              refine .region rfl ?_
              refine .p (.eqlI (.t rfl) (.i rfl) (.p (.assign (.t rfl) ?_)))
              refine .nil ?_
              refine .condP (.t rfl) (fun hc47 => ?_) (fun hc47 => ?_)
              · refine .region rfl ?_
                refine .p (.move (.t rfl) (.h (.callM hG (Range_e _ _ _ _ (by first | assumption | exact deckNew_ok _) (by first | omega | (simp; done) | (simp; omega) | (simp at *; omega)) (by first | omega | (simp; done) | (simp; omega) | (simp at *; omega)) (by first | omega | (simp; done) | (simp; omega) | (simp at *; omega))) (.s (.s .z)) (.cons (.t rfl) (.cons (.i rfl) (.cons (.i rfl) .nil))) (by rintro _ _ ⟨_, _, _, _, _, _, rfl⟩; exact ⟨_, rfl⟩) fun r50 B50 hr50 => ?_)))
                obtain ⟨v50, d50, h050, h150, hd50, rfl, hB⟩ := hr50
                cases hB
                refine .p (.move (.t rfl) (.h (.callM hG (Range_e _ _ _ _ (by first | assumption | exact deckNew_ok _) (by first | omega | (simp; done) | (simp; omega) | (simp at *; omega)) (by first | omega | (simp; done) | (simp; omega) | (simp at *; omega)) (by first | omega | (simp; done) | (simp; omega) | (simp at *; omega))) (.s (.s .z)) (.cons (.t rfl) (.cons (.i rfl) (.cons (.i rfl) .nil))) (by rintro _ _ ⟨_, _, _, _, _, _, rfl⟩; exact ⟨_, rfl⟩) fun r52 B52 hr52 => ?_)))
                obtain ⟨v52, d52, h052, h152, hd52, rfl, hB⟩ := hr52
                cases hB
                refine .p (.fldW G_api_Item.l0 fd67_0 rfl (.t rfl) (.n (.stF (fun y x => { x with Place := y }) ty3 (.t rfl) (.t rfl) (.s .z) (fun _ _ => rfl) (.p (.fldW G_api_Item.l2 fd67_2 rfl (.t rfl) (.n (.stF (fun y x => { x with Number := y }) ty3 (.t rfl) (.t rfl) (.s .z) (fun _ _ => rfl) ?_)))))))
                refine .nil ?_
                refine .seq ?_
                refine .region rfl ?_
                refine .p (.ldW ty67 (.t rfl) (.s .z) (.n (.stW ty67 (.t rfl) (.t rfl) .z ?_)))
                refine .nil ?_
                refine .ret ?_
                refine ⟨_, .r1 rfl (.cell ty67 rfl .z), ?_⟩
                refine ⟨_, .cons (.s (.s .z)) (.nil), ?_⟩
                exact ⟨_, by first | exact Nat.le_max_right _ _ | (simp; omega), _, by assumption, rfl, rfl⟩
              · refine .skip ?_
                refine .seq ?_
                refine .region rfl ?_
                refine .p (.ldW ty67 (.t rfl) (.s .z) (.n (.stW ty67 (.t rfl) (.t rfl) .z ?_)))
                refine .nil ?_
                refine .ret ?_
                refine ⟨_, .r1 rfl (.cell ty67 rfl .z), ?_⟩
                refine ⟨_, .cons (.s (.s .z)) (.nil), ?_⟩
                exact ⟨_, by first | exact Nat.le_max_right _ _ | (simp; omega), _, by assumption, rfl, rfl⟩
theorem cut1200 (l : List UInt8) : (l.take (min (l.length : Int) 1200).toNat).length ≤ 1200 := by simp; omega
abbrev it24 : Item := ⟨1, 2, 2, default, [], default⟩
def aw24 : Alg := ⟨true, default, 0, [⟨tag1, itemBytes it24, symTag 109 1⟩], []⟩
theorem it24_ok : itemErr it24 = 0 := by decide
theorem it24_len : (itemBytes it24).length ≤ 1096 := itemBytes_len (itemOk it24_ok)
theorem aw24_1 : algSign ⟨true, default, 0, [], []⟩ tag1 it24 = (aw24, ⟨1, 2, 2, default, [], symTag 109 1⟩, 0) := by
  unfold algSign
  rw [it24_ok, if_neg (by decide), algMac_new (by have := it24_len; omega) rfl (by decide)]
  rfl
theorem sign_as {a b : Alg} {k : Tag} {x y : Item} {e : Int} (hx : x.Box.length ≤ 1000000) (hl : a.Macs.length ≤ 1000000) (h : algSign a k x = (b, y, e)) : FunA gl Tryd.prog 48 [.v a, .v k, .v x] (fun r => r = .t3 (.v b) (.v y) (.v e)) :=
  (sign_c a k x hx hl).mono fun r hr => by rw [hr, h]
theorem itemCheck_look {a : Alg} {k t : Tag} {x : Item} {ok : Bool} (h : itemErr x = 0) (hl : algLook a k (itemBytes x) = (t, ok)) : itemCheck a k x = if ok = false ∨ t ≠ x.Tag then 19 else 0 := by
  unfold itemCheck; rw [h, if_neg (by decide), hl]
theorem aw24_2 : itemCheck aw24 tag1 ⟨1, 2, 2, default, [], symTag 109 1⟩ = 0 := by
  rw [itemCheck_look (t := symTag 109 1) (ok := true) (by decide) (by
    have e : itemBytes ⟨1, 2, 2, default, [], symTag 109 1⟩ = itemBytes it24 := rfl
    rw [e]; simp [algLook, algEntry, algFind, aw24, macEq])]
  simp
theorem aw24_ne (y : Item) (h1 : y.Place = 2) (h2 : y.Kind = 2) (h3 : y.Number = 2) : itemBytes it24 ≠ itemBytes y := by
  unfold itemBytes
  rw [h1, h2, h3]
  simp only [it24]
  rw [show (1 : Int).toNat = 1 by rfl, show (2 : Int).toNat = 2 by rfl, numL_lt (n := 1) (by decide), numL_lt (n := 2) (by decide)]
  intro h
  have h4 := congrArg (fun q => q[4]?) h
  simp [itemStr] at h4
theorem aw24_3 : itemCheck aw24 tag1 ⟨2, 2, 2, default, [], symTag 109 1⟩ = 19 := by
  rw [itemCheck_look (t := default) (ok := false) (by decide) (by
    have e := aw24_ne ⟨2, 2, 2, default, [], symTag 109 1⟩ rfl rfl rfl
    simp [algLook, algEntry, algFind, aw24, macEq, e])]
  simp
theorem awake24_c : FunA gl Tryd.prog 47 [] (fun r => r = .v true) := by
  refine FunA.intro Tryd.func47 rfl (by kernel_rfl) 31 rfl rfl _ rfl fun C hC hG => ?_
  refine .seq ?_
  refine .region rfl ?_
  refine .p (.assign .b ?_)
  refine .nil ?_
  refine .seq ?_
  refine .region rfl ?_
  refine .p (.bS1 G_api_Algebra.l0 rfl ty32 fo32 (fun c0 => (⟨c0, default, 0, [], []⟩ : G_api_Algebra)) (fun _ => rfl) rfl rfl .b (.p (.buildA _ ty28 ar28 (.cons (Lens.idx 0 (by decide)) _ rfl (.u8 1 rfl) .nil) rfl (.p (.bS3 G_api_Item.l0 G_api_Item.l1 G_api_Item.l2 rfl ty67 fo67 (fun c0 c1 c2 => (⟨c0, c1, c2, default, [], default⟩ : G_api_Item)) (fun _ _ _ => rfl) rfl rfl rfl rfl (.i rfl) (.i rfl) (.i rfl) (.p (.call1 hG (sign_as (by decide) (by decide) aw24_1) (.cons (.t rfl) (.cons (.t rfl) (.cons (.t rfl) .nil))) (.p (.move (.t rfl) (.p (.ext3_0 (.t rfl) ?_)))))))))))
  refine .p (.ext3_1 (.t rfl) (.p (.ext3_2 (.t rfl) (.h (.alloc ty32 fun b1 => .h (.alloc ty67 fun b2 => .n (.stW ty32 (.t rfl) (.t rfl) (.s .z) (.n (.stW ty67 (.t rfl) (.t rfl) .z ?_)))))))))
  refine .p (.assign (.t rfl) ?_)
  refine .nil ?_
  refine .seq ?_
  refine .region rfl ?_
  refine .p (.ldW ty32 (.t rfl) (.s .z) (.p (.buildA _ ty28 ar28 (.cons (Lens.idx 0 (by decide)) _ rfl (.u8 1 rfl) .nil) rfl (.p (.ldW ty67 (.t rfl) .z (.p (.call1 hG (itemCheckP_c _ _ _ (by decide)) (.cons (.t rfl) (.cons (.t rfl) (.cons (.t rfl) .nil))) (.p (.assign (.t rfl) ?_)))))))))
  refine .nil ?_
  refine .seq ?_
  refine .region rfl ?_
  refine .p (.fldW G_api_Item.l0 fd67_0 rfl (.t rfl) (.n (.stF (fun y x => { x with Place := y }) ty3 (.t rfl) (.i rfl) .z (fun _ _ => rfl) ?_)))
  refine .nil ?_
  refine .seq ?_
  refine .region rfl ?_
  refine .p (.move (.t rfl) (.p (.eqlI (.t rfl) (.i rfl) (.p (.move (.t rfl) ?_)))))
  refine .go 20 rfl (.t rfl) (fun hg21 => .move (.t rfl) rfl) ?_
  refine .go 20 rfl (.t rfl) (fun hg22 => .eqlI (.o rfl (beq_iff_eq.2 hg22)) (.i rfl) rfl) ?_
  refine .p (.pickAnd (.t rfl) (fun hp => (.o rfl (beq_iff_eq.2 hp))) (.p (.move (.t rfl) ?_)))
  refine .go 24 rfl (.t rfl) (fun hg25 => .ldW ty32 (.t rfl) (.s .z) rfl) ?_
  refine .go 24 rfl (.t rfl) (fun hg26 => .buildA _ ty28 ar28 (.cons (Lens.idx 0 (by decide)) _ rfl (.u8 1 rfl) .nil) rfl rfl) ?_
  refine .go 24 rfl (.t rfl) (fun hg27 => .ldW ty67 (.t rfl) .z rfl) ?_
  refine .go 24 rfl (.t rfl) (fun hg28 => .call1 hG (itemCheckP_c _ _ _ (by decide)) (.cons (.o rfl (beq_iff_eq.2 hg28)) (.cons (.o rfl (beq_iff_eq.2 hg28)) (.cons (.o rfl (beq_iff_eq.2 hg28)) .nil))) rfl) ?_
  refine .go 24 rfl (.t rfl) (fun hg29 => .eqlI (.o rfl (beq_iff_eq.2 hg29)) (.i rfl) rfl) ?_
  refine .p (.pickAnd (.t rfl) (fun hp => (.o rfl (beq_iff_eq.2 hp))) (.p (.assign (.t rfl) ?_)))
  refine .nil ?_
  refine .ret ?_
  refine ⟨_, .r1 rfl (.tmp rfl), ?_⟩
  dsimp only; rw [aw24_2, aw24_3]; rfl
theorem sameItem_self (x : Item) : sameItem x x = true := by simp [sameItem]
theorem FeedSign_c (raw : Item) (deck how : List Int) (n : Int) : FunA gl Tryd.prog 15 [.v raw, .v deck, .v how, .v n] (fun r => r = .v true) := by
  refine FunA.intro Tryd.func15 rfl (by kernel_rfl) 120 rfl rfl _ rfl fun C hC hG => ?_
  have hraw := cut1200 raw.Box
  refine .seq ?_
  refine .region rfl ?_
  refine .h (.box (.t rfl) fun b4 => .p (.assign .b ?_))
  refine .nil ?_
  refine .seq ?_
  refine .region rfl ?_
  refine .p (.fldW G_api_Item.l4 fd67_4 rfl (.t rfl) (.p (.ldF (fun x => x.Box) ty23 (.t rfl) .z (fun _ => rfl) (.p (.fldW G_api_Item.l4 fd67_4 rfl (.t rfl) (.p (.ldF (fun x => x.Box) ty23 (.t rfl) .z (fun _ => rfl) (.p (.len Tryd.underlying23 (.t rfl) (.p (.minI (.t rfl) (.i rfl) ?_)))))))))))
  refine .p (.slHi ty5 Tryd.underlying23 (.t rfl) (.t rfl) (by first | omega | (simp; done) | (simp; omega) | (simp at *; omega)) (by first | omega | (simp; done) | (simp; omega) | (simp at *; omega)) (.p (.fldW G_api_Item.l4 fd67_4 rfl (.t rfl) (.n (.stF (fun y x => { x with Box := y }) ty23 (.t rfl) (.t rfl) .z (fun _ _ => rfl) ?_)))))
  refine .nil ?_
  refine .seq ?_
  refine .region rfl ?_
  refine .p (.move (.t rfl) (.h (.call0 hG (deckNew_c _) (.cons (.t rfl) .nil) fun r35 Hs35 hr35 => ?_)))
  obtain ⟨b35, rfl, rfl⟩ := hr35
  show wpB _ _ _ _ _ _ _ ((true, _) :: _)
  refine .p (.assign (.t rfl) ?_)
  refine .nil ?_
  refine .seq ?_
  refine .region rfl ?_
  refine .p (.move (.t rfl) (.h (.callM hG (Algebra_deck_c _ _ (by first | assumption | exact deckNew_ok _)) .z (.cons (.t rfl) .nil) (by rintro _ _ ⟨_, _, _, _, _, rfl⟩; exact ⟨_, rfl⟩) fun r37 B37 hr37 => ?_)))
  obtain ⟨a, d37, ha, hd37, rfl, hB⟩ := hr37
  cases hB
  refine .h (.alloc ty32 fun b10 => .n (.stW ty32 (.t rfl) (.t rfl) .z ?_))
  refine .nil ?_
  refine .seq ?_
  refine .region rfl ?_
  refine .p (.move (.t rfl) (.p (.ldW ty32 (.t rfl) .z (.h (.callM hG (Known_deck_c _ _ _ (by first | assumption | exact deckNew_ok _) (by first | omega | (have := ha.macs; omega)) (by first | omega | (have := ha.boxes; omega))) (.s .z) (.cons (.t rfl) (.cons (.t rfl) .nil)) (by rintro _ _ ⟨_, _, _, _, rfl⟩; exact ⟨_, rfl⟩) fun r40 B40 hr40 => ?_)))))
  obtain ⟨k40, d40, hd40, rfl, hB⟩ := hr40
  cases hB
  refine .h (.alloc ty28 fun b11 => .n (.stW ty28 (.t rfl) (.t rfl) .z ?_))
  refine .nil ?_
  refine .seq ?_
  refine .region rfl ?_
  refine .p (.move (.t rfl) (.h (.callM hG (made24_c _ _ (by assumption)) (.s (.s .z)) (.cons (.t rfl) .nil) (by rintro _ _ ⟨_, _, _, _, _, rfl⟩; exact ⟨_, rfl⟩) fun r42 B42 hr42 => ?_)))
  obtain ⟨x42, ⟨hx42, hxl42⟩, d42, hd42, rfl, hB⟩ := hr42
  cases hB
  refine .h (.alloc ty67 fun b12 => .n (.stW ty67 (.t rfl) (.t rfl) .z ?_))
  refine .nil ?_
  refine .seq ?_
  refine .frzOb hC .z ?_
  refine .asP 12 rfl .z ?_
  refine .drawZ [[false, false, false, false, false], [false, false, false, false, false], [false, false, false, false, false]] [[false, false, false, false, false], [false, false, false, false, false], [], [false, false, false, false, false], [], []] [] [(5, (⟨G_api_Item, inferInstance, default⟩ : AT))] 2 (by kernel_rfl) 6 [[], [], [(44, 1)], [], [(43, 0), (45, 2), (46, 3)], []] [2, 4] rfl (by kernel_rfl) rfl (by kernel_rfl) rfl (by decide) (by simp) (List.forall_mem_cons.2 ⟨fun o ho => by obtain rfl := Option.some.inj (show some _ = some o from ho); exact ⟨rfl, fun _ _ => OpH.alloc ty67 fun b => ⟨b, rfl, rfl⟩⟩, (fun p hp => by cases hp)⟩) (by kernel_rfl) rfl ?_
  refine ⟨_, fun H => OpP.ldP ty67 (.t rfl) rfl, ?_⟩
  refine ⟨_, fun H => OpP.move (.t rfl) rfl, ?_⟩
  refine .inl ?_
  refine ⟨_, fun H => OpP.move (.t rfl) rfl, ?_⟩
  refine .inl ?_
  refine .inl ?_
  refine ⟨rfl, ?_⟩
  refine ⟨⟨fun k => List.getD [(true, .none_), (true, .none_), (true, .none_), (true, .none_), (true, .none_)] k (true, .none_), rfl⟩, fun Ys6 => ?_⟩
  refine OpH.call0 hG (deckNew_c _) (.cons (.t rfl) .nil) fun r45 Hs45 hr45 => ?_
  obtain ⟨b45, rfl, rfl⟩ := hr45
  refine ⟨[_], _, rfl, ?_⟩
  refine ⟨⟨fun k => List.getD [(true, .none_), (true, .none_), (true, .none_), (true, .none_), (true, .none_)] k (true, .none_), rfl⟩, fun Ys6 => ?_⟩
  refine OpH.callM hG (spoilt24_c _ _ (deckNew_ok _) _ _) .z (.cons (.t rfl) (.cons (.t rfl) (.cons (.t rfl) .nil))) (by rintro _ _ ⟨_, _, _, _, _, rfl⟩; exact ⟨_, rfl⟩) fun r47 B47 hr47 => ?_
  obtain ⟨y47, hy47, d47, hd47, rfl, hB⟩ := hr47
  cases hB
  refine ⟨[_], _, rfl, ?_⟩
  refine ⟨⟨fun k => List.getD [(true, .none_), (true, .none_), (true, .none_), (true, .none_), (true, .none_)] k (true, .none_), rfl⟩, fun ws6 => ?_⟩
  refine ⟨⟨fun k => List.getD [(true, .none_), (true, .none_), (true, .none_), (true, .none_), (true, .none_)] k (true, .none_), rfl⟩, fun _ => ?_⟩
  show wpB _ _ _ _ _ _ ((13, _) :: (47, _) :: (46, _) :: (45, _) :: (44, _) :: (43, _) :: _) _
  refine .n (.stW ty67 (.t rfl) (.t rfl) (.s .z) ?_)
  refine .nil ?_
  refine .seq ?_
  refine .seq ?_
  refine .frzOb hC (.s .z) ?_
  refine .asP 13 rfl (.s .z) ?_
  refine .frzOb hC (.s (.s (.s (.s (.s (.s .z)))))) ?_
  refine .asP 4 rfl (.s (.s (.s (.s (.s (.s .z)))))) ?_
  refine .frzOb hC (.s (.s (.s (.s .z)))) ?_
  refine .asP 10 rfl (.s (.s (.s (.s .z)))) ?_
  refine .frzOb hC (.s (.s (.s .z))) ?_
  refine .asP 11 rfl (.s (.s (.s .z))) ?_
  refine .region rfl ?_
  refine .p (.ldP ty67 (.t rfl) (.p (.ldP ty67 (.t rfl) (.p (.ldP ty67 (.t rfl) (.h (.buildSlice (α := G_api_Item) ty67 Tryd.underlying72 (.cons (.t rfl) (.cons (.t rfl) (.cons (.t rfl) .nil))) rfl (by decide) fun b51 => .p (.lenOwn Tryd.underlying72 rfl .z (.p (.move (.i rfl) ?_))))))))))
  refine .frzOwn hC .z ?_
  refine .as 51 rfl .z ?_
  have hl : ∀ z ∈ ([⟨raw.Place, raw.Kind, raw.Number, raw.Node, raw.Box.take (min (raw.Box.length : Int) 1200).toNat, raw.Tag⟩, x42, y47] : List Item), z.Box.length ≤ 2000 := by simp; omega
  refine .nil ?_
  refine .block ?_
  refine .loopR (α := Nat) [(10, _), (11, _), (12, _), (51, _), (52, _)] (fun j R => (53, .v (j : Int)) :: R) (Function.const _ _) (fun j => j ≤ 3) (fun j => 3 - j) (0) (.cons rfl (.cons rfl (.cons rfl (.cons rfl (.cons rfl (.nil _)))))) ?_ (.cons rfl (.cons rfl (.cons rfl (.cons rfl (.cons rfl (.cons rfl (.nil _))))))) (rfl) fun j hF => ?_
  · simp
  refine .seq ?_
  refine .region rfl ?_
  refine .p (.lss (.t rfl) (.t rfl) ?_)
  refine .nil ?_
  refine .seq ?_
  refine .condP (.t rfl) (fun hc54 => ?_) (fun hc54 => ?_)
  · refine .skip ?_
    refine .seq ?_
    refine .block ?_
    refine .seq ?_
    refine .region rfl ?_
    refine .p (.idx ty67 Tryd.underlying72 (.t rfl) (.t rfl) (by first | omega | (simp; done) | (simp; omega) | (simp at *; omega)) (by first | omega | (simp; done) | (simp; omega) | (simp at *; omega)) (.p (.ldP ty67 (.t rfl) (.h (.alloc ty67 fun b15 => .n (.stW ty67 (.t rfl) (.t rfl) .z ?_))))))
    refine .nil ?_
    refine .seq ?_
    refine .region rfl ?_
    refine .p (.ldW ty67 (.t rfl) .z (.p (.call1 hG (itemMsgP_c _ (Nat.le_trans (hl _ (List.getElem_mem _)) (show 2000 ≤ 1000000 by decide))) (.cons (.t rfl) .nil) (.p (.move (.t rfl) (.p (.ext2_0 (.t rfl) (.p (.ext2_1 (.t rfl) (.p (.assign (.t rfl) ?_)))))))))))
    refine .p (.assign (.t rfl) ?_)
    refine .nil ?_
    refine .seq ?_
    refine .region rfl ?_
    refine .p (.ldW ty67 (.t rfl) .z (.p (.call1 hG (rItemMsg_c _) (.cons (.t rfl) .nil) (.p (.move (.t rfl) (.p (.ext2_0 (.t rfl) (.p (.ext2_1 (.t rfl) (.p (.assign (.t rfl) ?_)))))))))))
    refine .p (.assign (.t rfl) ?_)
    refine .nil ?_
    refine .seq ?_
    refine .region rfl ?_
    refine .p (.ldP ty32 (.t rfl) (.p (.ldP ty28 (.t rfl) (.p (.ldW ty67 (.t rfl) .z (.p (.call1 hG (sign_c _ _ _ (Nat.le_trans (hl _ (List.getElem_mem _)) (show 2000 ≤ 1000000 by decide)) (by have := ha.macs; omega)) (.cons (.t rfl) (.cons (.t rfl) (.cons (.t rfl) .nil))) (.p (.move (.t rfl) (.p (.ext3_0 (.t rfl) ?_)))))))))))
    refine .p (.ext3_1 (.t rfl) (.p (.ext3_2 (.t rfl) (.h (.alloc ty32 fun b20 => .h (.alloc ty67 fun b21 => .n (.stW ty32 (.t rfl) (.t rfl) (.s .z) (.n (.stW ty67 (.t rfl) (.t rfl) .z ?_)))))))))
    refine .p (.assign (.t rfl) ?_)
    refine .nil ?_
    refine .seq ?_
    refine .region rfl ?_
    refine .p (.ldP ty32 (.t rfl) (.p (.ldP ty28 (.t rfl) (.p (.ldW ty67 (.t rfl) (.s (.s .z)) (.p (.call1 hG (rSign_c _ _ _) (.cons (.t rfl) (.cons (.t rfl) (.cons (.t rfl) .nil))) (.p (.move (.t rfl) (.p (.ext3_0 (.t rfl) ?_)))))))))))
    refine .p (.ext3_1 (.t rfl) (.p (.ext3_2 (.t rfl) (.h (.alloc ty32 fun b23 => .h (.alloc ty67 fun b24 => .n (.stW ty32 (.t rfl) (.t rfl) (.s .z) (.n (.stW ty67 (.t rfl) (.t rfl) .z ?_)))))))))
    refine .p (.assign (.t rfl) ?_)
    refine .nil ?_
    refine .seq ?_
    refine .draw (by kernel_rfl) 35 [[], [], [(83, 0), (84, 1)], [(85, 2)], [(86, 3)], [], [], [(88, 5), (89, 6)], [(87, 4), (90, 7)], [(91, 8)], [], [], [(93, 10), (94, 11)], [(95, 12)], [(92, 9), (96, 13)], [(97, 14)], [], [], [(99, 16), (100, 17)], [(101, 18)], [(98, 15), (102, 19)], [(103, 20)], [], [], [(105, 22), (106, 23)], [(104, 21), (107, 24)], [(108, 25)], [], [], [(110, 27), (111, 28)], [], [], [(113, 30), (114, 31)], [(112, 29), (115, 32)], [(109, 26), (116, 33)]] rfl (by kernel_rfl) rfl ?_
    refine ⟨_, OpP.move (.t rfl) rfl, ?_⟩
    refine ⟨_, OpP.move (.t rfl) rfl, ?_⟩
    refine ⟨_, OpP.call1 hG (Same_c _ _) (.cons (.t rfl) (.cons (.t rfl) .nil)) rfl, ?_⟩
    refine ⟨_, OpP.not (.t rfl) rfl, ?_⟩
    refine ⟨_, OpP.move (.t rfl) rfl, ?_⟩
    refine ⟨_, ⟨_, _, rfl, rfl, fun hg88 => OpP.move (.t rfl) rfl⟩, ?_⟩
    refine ⟨_, ⟨_, _, rfl, rfl, fun hg89 => OpP.move (.t rfl) rfl⟩, ?_⟩
    refine ⟨_, ⟨_, _, rfl, rfl, fun hg90 => OpP.neqI (.o rfl (beq_iff_eq.2 hg90)) (.o rfl (beq_iff_eq.2 hg90)) rfl⟩, ?_⟩
    refine ⟨_, OpP.pickOr (.t rfl) (fun hp => (.o rfl (beq_iff_eq.2 hp))) rfl, ?_⟩
    refine ⟨_, OpP.move (.t rfl) rfl, ?_⟩
    refine ⟨_, ⟨_, _, rfl, rfl, fun hg93 => OpP.ldW ty32 (.t rfl) (.s (.s (.s .z))) rfl⟩, ?_⟩
    refine ⟨_, ⟨_, _, rfl, rfl, fun hg94 => OpP.ldW ty32 (.t rfl) (.s .z) rfl⟩, ?_⟩
    refine ⟨_, ⟨_, _, rfl, rfl, fun hg95 => OpP.call1 hG (sameAlg_c _) (.cons (.o rfl (beq_iff_eq.2 hg95)) (.cons (.o rfl (beq_iff_eq.2 hg95)) .nil)) rfl⟩, ?_⟩
    refine ⟨_, ⟨_, _, rfl, rfl, fun hg96 => OpP.not (.o rfl (beq_iff_eq.2 hg96)) rfl⟩, ?_⟩
    refine ⟨_, OpP.pickOr (.t rfl) (fun hp => (.o rfl (beq_iff_eq.2 hp))) rfl, ?_⟩
    refine ⟨_, OpP.move (.t rfl) rfl, ?_⟩
    refine ⟨_, ⟨_, _, rfl, rfl, fun hg99 => OpP.ldW ty67 (.t rfl) (.s (.s .z)) rfl⟩, ?_⟩
    refine ⟨_, ⟨_, _, rfl, rfl, fun hg100 => OpP.ldW ty67 (.t rfl) .z rfl⟩, ?_⟩
    refine ⟨_, ⟨_, _, rfl, rfl, fun hg101 => OpP.call1 hG (rSameItem_c _ _) (.cons (.o rfl (beq_iff_eq.2 hg101)) (.cons (.o rfl (beq_iff_eq.2 hg101)) .nil)) rfl⟩, ?_⟩
    refine ⟨_, ⟨_, _, rfl, rfl, fun hg102 => OpP.not (.o rfl (beq_iff_eq.2 hg102)) rfl⟩, ?_⟩
    refine ⟨_, OpP.pickOr (.t rfl) (fun hp => (.o rfl (beq_iff_eq.2 hp))) rfl, ?_⟩
    refine ⟨_, OpP.move (.t rfl) rfl, ?_⟩
    refine ⟨_, ⟨_, _, rfl, rfl, fun hg105 => OpP.move (.t rfl) rfl⟩, ?_⟩
    refine ⟨_, ⟨_, _, rfl, rfl, fun hg106 => OpP.move (.t rfl) rfl⟩, ?_⟩
    refine ⟨_, ⟨_, _, rfl, rfl, fun hg107 => OpP.neqI (.o rfl (beq_iff_eq.2 hg107)) (.o rfl (beq_iff_eq.2 hg107)) rfl⟩, ?_⟩
    refine ⟨_, OpP.pickOr (.t rfl) (fun hp => (.o rfl (beq_iff_eq.2 hp))) rfl, ?_⟩
    refine ⟨_, OpP.move (.t rfl) rfl, ?_⟩
    refine ⟨_, ⟨_, _, rfl, rfl, fun hg110 => OpP.ldW ty67 (.t rfl) (.s (.s (.s (.s .z)))) rfl⟩, ?_⟩
    refine ⟨_, ⟨_, _, rfl, rfl, fun hg111 => OpP.ldP ty67 (.t rfl) rfl⟩, ?_⟩
    refine ⟨_, ⟨_, _, rfl, rfl, fun hg112 => OpP.call1 hG (sameItemP_c _ _) (.cons (.o rfl (beq_iff_eq.2 hg112)) (.cons (.o rfl (beq_iff_eq.2 hg112)) .nil)) rfl⟩, ?_⟩
    refine ⟨_, ⟨_, _, rfl, rfl, fun hg113 => OpP.ldW ty67 (.t rfl) (.s (.s (.s (.s .z)))) rfl⟩, ?_⟩
    refine ⟨_, ⟨_, _, rfl, rfl, fun hg114 => OpP.ldP ty67 (.t rfl) rfl⟩, ?_⟩
    refine ⟨_, ⟨_, _, rfl, rfl, fun hg115 => OpP.call1 hG (rSameItem_c _ _) (.cons (.o rfl (beq_iff_eq.2 hg115)) (.cons (.o rfl (beq_iff_eq.2 hg115)) .nil)) rfl⟩, ?_⟩
    refine ⟨_, ⟨_, _, rfl, rfl, fun hg116 => OpP.neqBl Tryd.underlying4 (.o rfl (beq_iff_eq.2 hg116)) (.o rfl (beq_iff_eq.2 hg116)) rfl⟩, ?_⟩
    refine ⟨_, OpP.pickOr (.t rfl) (fun hp => (.o rfl (beq_iff_eq.2 hp))) rfl, ?_⟩
    show wpB _ _ _ _ _ _ ((117, _) :: (116, _) :: (115, _) :: (114, _) :: (113, _) :: (112, _) :: (111, _) :: (110, _) :: (109, _) :: (108, _) :: (107, _) :: (106, _) :: (105, _) :: (104, _) :: (103, _) :: (102, _) :: (101, _) :: (100, _) :: (99, _) :: (98, _) :: (97, _) :: (96, _) :: (95, _) :: (94, _) :: (93, _) :: (92, _) :: (91, _) :: (90, _) :: (89, _) :: (88, _) :: (87, _) :: (86, _) :: (85, _) :: (84, _) :: (83, _) :: _) _
    refine .nil ?_
    refine .cond (.t rfl) (fun hc117 => (by exfalso; simp [sameItem_self] at hc117)) (fun hc117 => ?_)
    refine .skip ?_
    refine .drop ?_
    refine .drop ?_
    refine .drop ?_
    refine .drop ?_
    refine .drop ?_
    refine .region rfl ?_
    refine .p (.add (.t rfl) (.i rfl) (by first | omega | (simp; done) | (simp; omega) | (simp at *; omega)) (by first | omega | (simp; done) | (simp; omega) | (simp at *; omega)) (.p (.move (.t rfl) ?_)))
    refine .nil ?_
    refine ⟨j + 1, .cons rfl (.cons rfl (.cons rfl (.cons rfl (.cons rfl (.cons rfl (.nil _)))))), rfl, ?_, by simp at hc54; omega⟩
    simp at hc54; omega
  · refine .exit ?_
    refine .seq ?_
    refine .region rfl ?_
    refine .p (.call1 hG (awake24_c) .nil (.p (.assign (.t rfl) ?_)))
    refine .nil ?_
    refine .ret ?_
    refine ⟨_, .r1 rfl (.tmp rfl), ?_⟩
    rfl
structure Signed (a : Alg) (n : Nat) (k : Tag) (x : Item) (b : Alg) (y : Item) : Prop where
  sign : algSign a k x = (b, y, 0)
  ok : AlgOk b (n + 1)
  check : itemCheck b k y = 0
  box : y.Box = x.Box
theorem AlgOk.signed {a : Alg} {n : Nat} (h : AlgOk a n) (hn : n < 60000) (k : Tag) {x : Item} (hx : itemErr x = 0) (hb : x.Box.length ≤ 20) : ∃ b y, Signed a n k x b y := by
  have hm : (itemBytes x).length ≤ 1000 := by
    have h1 := itemOk hx
    have h2 := numL_le7 (n := x.Place.toNat) (by have := h1.place; omega)
    have h3 := numL_le7 (n := x.Kind.toNat) (by have := h1.kind; omega)
    have h4 := numL_le7 (n := x.Number.toNat) (by have := h1.num; omega)
    have h5 := numL_le7 (n := x.Box.length) (by omega)
    simp [itemBytes, itemStr, Arr.len]; omega
  obtain ⟨b, t, hb2⟩ := h.made hn (k := k) hm
  have hok := h.mac (by omega) (k := k) hm
  rw [hb2.mac] at hok
  have e : itemErr { x with Tag := t } = 0 := hx
  refine ⟨b, { x with Tag := t }, by unfold algSign; rw [hx, if_neg (by decide), hb2.mac]; rfl, hok, ?_, rfl⟩
  rw [itemCheck_look e (show algLook b k (itemBytes { x with Tag := t }) = (t, true) from hb2.look)]
  simp
theorem rSign_as {a b : Alg} {k : Tag} {x y : Item} {e : Int} (h : algSign a k x = (b, y, e)) : FunA gl Tryd.prog 42 [.v a, .v k, .v x] (fun r => r = .t3 (.v b) (.v y) (.v e)) :=
  (rSign_c a k x).mono fun r hr => by rw [hr, h]
theorem rSigned_c {a : Alg} {n : Nat} (h : AlgOk a n) (hn : n < 60000) (k : Tag) {x : Item} (hx : itemErr x = 0) (hb : x.Box.length ≤ 20) : FunA gl Tryd.prog 42 [.v a, .v k, .v x] (fun r => ∃ b y, r = .t3 (.v b) (.v y) (.v (0 : Int)) ∧ Signed a n k x b y) := by
  obtain ⟨b, y, hs⟩ := h.signed hn k hx hb
  exact (rSign_as hs.sign).mono fun r hr => ⟨b, y, hr, hs⟩
theorem FeedCheck_c (raw : Item) (deck how : List Int) (n : Int) : FunA gl Tryd.prog 13 [.v raw, .v deck, .v how, .v n] (fun r => r = .v true) := by
  refine FunA.intro Tryd.func13 rfl (by kernel_rfl) 88 rfl rfl _ rfl fun C hC hG => ?_
  have hraw := cut1200 raw.Box
  refine .seq ?_
  refine .region rfl ?_
  refine .h (.box (.t rfl) fun b4 => .p (.assign .b ?_))
  refine .nil ?_
  refine .seq ?_
  refine .region rfl ?_
  refine .p (.fldW G_api_Item.l4 fd67_4 rfl (.t rfl) (.p (.ldF (fun x => x.Box) ty23 (.t rfl) .z (fun _ => rfl) (.p (.fldW G_api_Item.l4 fd67_4 rfl (.t rfl) (.p (.ldF (fun x => x.Box) ty23 (.t rfl) .z (fun _ => rfl) (.p (.len Tryd.underlying23 (.t rfl) (.p (.minI (.t rfl) (.i rfl) ?_)))))))))))
  refine .p (.slHi ty5 Tryd.underlying23 (.t rfl) (.t rfl) (by first | omega | (simp; done) | (simp; omega) | (simp at *; omega)) (by first | omega | (simp; done) | (simp; omega) | (simp at *; omega)) (.p (.fldW G_api_Item.l4 fd67_4 rfl (.t rfl) (.n (.stF (fun y x => { x with Box := y }) ty23 (.t rfl) (.t rfl) .z (fun _ _ => rfl) ?_)))))
  refine .nil ?_
  refine .seq ?_
  refine .region rfl ?_
  refine .p (.move (.t rfl) (.h (.call0 hG (deckNew_c _) (.cons (.t rfl) .nil) fun r27 Hs27 hr27 => ?_)))
  obtain ⟨b27, rfl, rfl⟩ := hr27
  show wpB _ _ _ _ _ _ _ ((true, _) :: _)
  refine .p (.assign (.t rfl) ?_)
  refine .nil ?_
  refine .seq ?_
  refine .region rfl ?_
  refine .p (.move (.t rfl) (.h (.callM hG (Algebra_deck_c _ _ (by first | assumption | exact deckNew_ok _)) .z (.cons (.t rfl) .nil) (by rintro _ _ ⟨_, _, _, _, _, rfl⟩; exact ⟨_, rfl⟩) fun r29 B29 hr29 => ?_)))
  obtain ⟨a, d29, ha, hd29, rfl, hB⟩ := hr29
  cases hB
  refine .h (.alloc ty32 fun b10 => .n (.stW ty32 (.t rfl) (.t rfl) .z ?_))
  refine .nil ?_
  refine .seq ?_
  refine .region rfl ?_
  refine .p (.move (.t rfl) (.p (.ldW ty32 (.t rfl) .z (.h (.callM hG (Known_deck_c _ _ _ (by first | assumption | exact deckNew_ok _) (by first | omega | (have := ha.macs; omega)) (by first | omega | (have := ha.boxes; omega))) (.s .z) (.cons (.t rfl) (.cons (.t rfl) .nil)) (by rintro _ _ ⟨_, _, _, _, rfl⟩; exact ⟨_, rfl⟩) fun r32 B32 hr32 => ?_)))))
  obtain ⟨k32, d32, hd32, rfl, hB⟩ := hr32
  cases hB
  refine .h (.alloc ty28 fun b11 => .n (.stW ty28 (.t rfl) (.t rfl) .z ?_))
  refine .nil ?_
  refine .seq ?_
  refine .frzOb hC .z ?_
  refine .asP 11 rfl .z ?_
  refine .drawZ [[false, false, false, false], [false, false, true, false], [false, false, true, false], [false, true, true, false], [false, true, true, false]] [[false, false, true, false], [false, false, true, false], [false, false, false, false], [], [], [false, false, true, false], [false, false, true, false], [false, true, true, false], [false, true, true, false], [], [], [], [false, true, true, false]] [[], [], [5, 6, 7, 8, 12], [], []] [(9, (⟨G_api_Item, inferInstance, default⟩ : AT))] 3 (by kernel_rfl) 13 [[], [], [], [(36, 2)], [(34, 0), (35, 1), (37, 3)], [(38, 4)], [(33, 5)], [(33, 5)], [(33, 5)], [], [(39, 6)], [(12, 9), (40, 7)], [(41, 8)]] [3, 4, 10, 11] rfl (by kernel_rfl) rfl (by kernel_rfl) rfl (by decide) (by simp) (List.forall_mem_cons.2 ⟨fun o ho => by obtain rfl := Option.some.inj (show some _ = some o from ho); exact ⟨rfl, fun _ _ => OpH.alloc ty67 fun b => ⟨b, rfl, rfl⟩⟩, (fun p hp => by cases hp)⟩) (by kernel_rfl) rfl ?_
  refine ⟨_, fun H => OpP.ldW ty32 (.t rfl) (Hole.app (.s .z)) rfl, ?_⟩
  refine ⟨_, fun H => OpP.ldP ty28 (.t rfl) rfl, ?_⟩
  refine ⟨_, fun H => OpP.move (.t rfl) rfl, ?_⟩
  refine .inl ?_
  refine .inl ?_
  refine .inl ?_
  refine .inl ?_
  refine .inl ?_
  refine .inl ?_
  refine .inl ?_
  refine .inl ?_
  refine .inl ?_
  refine .inl ?_
  refine ⟨rfl, ?_⟩
  refine ⟨⟨fun k => List.getD [(true, .none_), (true, .none_), (true, .none_), (true, .none_)] k (true, .none_), rfl⟩, fun Ys5 => ?_⟩
  refine OpH.callM hG (made24_c _ _ (by assumption)) (Hole.app (Hole.app (.s (.s .z)))) (.cons (.t rfl) .nil) (by rintro _ _ ⟨_, _, _, _, _, rfl⟩; exact ⟨_, rfl⟩) fun r37 B37 hr37 => ?_
  obtain ⟨x37, ⟨hx37, hxl37⟩, d37, hd37, rfl, hB⟩ := hr37
  cases hB
  refine ⟨[], _, rfl, ?_⟩
  refine ⟨⟨fun k => List.getD [(true, .none_), (true, .none_), _, (true, .none_)] k (true, .none_), rfl⟩, fun Ys5 => ?_⟩
  refine OpH.ofP (OpP.call hG (rSigned_c ha (by decide) _ hx37 hxl37) (.cons (.t rfl) (.cons (.t rfl) (.cons (.t rfl) .nil))) fun r38 hr38 => ?_)
  obtain ⟨b38, y38, rfl, hs38⟩ := hr38
  refine ⟨[], _, rfl, ?_⟩
  refine ⟨_, fun H => OpP.move (.t rfl) rfl, ?_⟩
  refine ⟨_, fun H => OpP.ext3_0 (.t rfl) rfl, ?_⟩
  refine ⟨_, fun H => OpP.ext3_1 (.t rfl) rfl, ?_⟩
  refine ⟨_, fun H => OpP.ext3_2 (.t rfl) rfl, ?_⟩
  refine ⟨_, fun H => OpP.assign (.t rfl) rfl, ?_⟩
  refine ⟨⟨fun k => List.getD [(true, .none_), (true, .none_), _, (true, .none_)] k (true, .none_), rfl⟩, fun Ys5 => ?_⟩
  refine OpH.stW ty32 (.t rfl) (.t rfl) (Hole.app (Hole.app (.s .z))) ?_
  refine ⟨[], _, rfl, ?_⟩
  refine ⟨⟨fun k => List.getD [(true, .none_), _, _, (true, .none_)] k (true, .none_), rfl⟩, fun ws5 => ?_⟩
  refine ⟨⟨fun k => List.getD [(true, .none_), _, _, (true, .none_)] k (true, .none_), rfl⟩, fun Ys5 => ?_⟩
  refine OpH.stW ty67 (.t rfl) (.t rfl) .z ?_
  refine ⟨[_], _, rfl, ?_⟩
  refine ⟨⟨fun k => List.getD [(true, .none_), _, _, (true, .none_)] k (true, .none_), rfl⟩, fun _ => ?_⟩
  show wpB _ _ _ _ _ _ ((13, _) :: (12, _) :: (41, _) :: (40, _) :: (39, _) :: (33, _) :: (38, _) :: (37, _) :: (36, _) :: (35, _) :: (34, _) :: _) _
  refine .nil ?_
  refine .seq ?_
  refine .frzOb hC .z ?_
  refine .asP 12 rfl .z ?_
  refine .drawZ [[false, false, false, false, false], [false, false, false, false, false], [false, false, false, false, false]] [[false, false, false, false, false], [false, false, false, false, false], [], [false, false, false, false, false], [], []] [] [(5, (⟨G_api_Item, inferInstance, default⟩ : AT))] 2 (by kernel_rfl) 6 [[], [], [(43, 1)], [], [(42, 0), (44, 2), (45, 3)], []] [2, 4] rfl (by kernel_rfl) rfl (by kernel_rfl) rfl (by decide) (by simp) (List.forall_mem_cons.2 ⟨fun o ho => by obtain rfl := Option.some.inj (show some _ = some o from ho); exact ⟨rfl, fun _ _ => OpH.alloc ty67 fun b => ⟨b, rfl, rfl⟩⟩, (fun p hp => by cases hp)⟩) (by kernel_rfl) rfl ?_
  refine ⟨_, fun H => OpP.ldP ty67 (.t rfl) rfl, ?_⟩
  refine ⟨_, fun H => OpP.move (.t rfl) rfl, ?_⟩
  refine .inl ?_
  refine ⟨_, fun H => OpP.move (.t rfl) rfl, ?_⟩
  refine .inl ?_
  refine .inl ?_
  refine ⟨rfl, ?_⟩
  refine ⟨⟨fun k => List.getD [(true, .none_), (true, .none_), (true, .none_), (true, .none_), (true, .none_)] k (true, .none_), rfl⟩, fun Ys6 => ?_⟩
  refine OpH.call0 hG (deckNew_c _) (.cons (.t rfl) .nil) fun r44 Hs44 hr44 => ?_
  obtain ⟨b44, rfl, rfl⟩ := hr44
  refine ⟨[_], _, rfl, ?_⟩
  refine ⟨⟨fun k => List.getD [(true, .none_), (true, .none_), (true, .none_), (true, .none_), (true, .none_)] k (true, .none_), rfl⟩, fun Ys6 => ?_⟩
  refine OpH.callM hG (spoilt24_c _ _ (deckNew_ok _) _ _) .z (.cons (.t rfl) (.cons (.t rfl) (.cons (.t rfl) .nil))) (by rintro _ _ ⟨_, _, _, _, _, rfl⟩; exact ⟨_, rfl⟩) fun r46 B46 hr46 => ?_
  obtain ⟨y46, hy46, d46, hd46, rfl, hB⟩ := hr46
  cases hB
  refine ⟨[_], _, rfl, ?_⟩
  refine ⟨⟨fun k => List.getD [(true, .none_), (true, .none_), (true, .none_), (true, .none_), (true, .none_)] k (true, .none_), rfl⟩, fun ws6 => ?_⟩
  refine ⟨⟨fun k => List.getD [(true, .none_), (true, .none_), (true, .none_), (true, .none_), (true, .none_)] k (true, .none_), rfl⟩, fun _ => ?_⟩
  show wpB _ _ _ _ _ _ ((14, _) :: (46, _) :: (45, _) :: (44, _) :: (43, _) :: (42, _) :: _) _
  refine .n (.stW ty67 (.t rfl) (.t rfl) (.s .z) ?_)
  refine .nil ?_
  refine .seq ?_
  refine .frzOb hC (.s .z) ?_
  refine .asP 14 rfl (.s .z) ?_
  refine .frzOb hC (.s (.s (.s (.s .z)))) ?_
  refine .asP 10 rfl (.s (.s (.s (.s .z)))) ?_
  refine .frzOb hC (.s (.s (.s (.s (.s (.s .z)))))) ?_
  refine .asP 4 rfl (.s (.s (.s (.s (.s (.s .z)))))) ?_
  have hb7 := hs38.ok.macs; have hb8 := hs38.ok.boxes
  have hbx : y38.Box.length ≤ 20 := by rw [hs38.box]; exact hxl37
  refine .region rfl ?_
  refine .p (.move (.t rfl) (.p (.ldP ty32 (.t rfl) (.h (.callM hG (Known_deck_c _ _ _ (by first | assumption | exact deckNew_ok _) (by first | omega | (have := ha.macs; omega)) (by first | omega | (have := ha.boxes; omega))) (.s (.s (.s (.s (.s .z))))) (.cons (.t rfl) (.cons (.t rfl) .nil)) (by rintro _ _ ⟨_, _, _, _, rfl⟩; exact ⟨_, rfl⟩) fun r49 B49 hr49 => ?_)))))
  obtain ⟨k49, d49, hd49, rfl, hB⟩ := hr49
  cases hB
  refine .h (.alloc ty28 fun b15 => .n (.stW ty28 (.t rfl) (.t rfl) .z ?_))
  refine .nil ?_
  refine .seq ?_
  refine .seq ?_
  refine .frzOb hC .z ?_
  refine .asP 15 rfl .z ?_
  refine .region rfl ?_
  refine .p (.ldP ty67 (.t rfl) (.p (.ldP ty67 (.t rfl) (.p (.ldP ty67 (.t rfl) (.h (.buildSlice (α := G_api_Item) ty67 Tryd.underlying72 (.cons (.t rfl) (.cons (.t rfl) (.cons (.t rfl) .nil))) rfl (by decide) fun b53 => .p (.lenOwn Tryd.underlying72 rfl .z (.p (.move (.i rfl) ?_))))))))))
  refine .frzOwn hC .z ?_
  refine .as 53 rfl .z ?_
  have hl : ∀ z ∈ ([⟨raw.Place, raw.Kind, raw.Number, raw.Node, raw.Box.take (min (raw.Box.length : Int) 1200).toNat, raw.Tag⟩, y38, y46] : List Item), z.Box.length ≤ 2000 := by simp; omega
  refine .nil ?_
  refine .block ?_
  refine .loopR (α := Nat) [(10, _), (11, _), (12, _), (15, _), (53, _), (54, _)] (fun j R => (55, .v (j : Int)) :: R) (Function.const _ _) (fun j => j ≤ 3) (fun j => 3 - j) (0) (.cons rfl (.cons rfl (.cons rfl (.cons rfl (.cons rfl (.cons rfl (.nil _))))))) ?_ (.cons rfl (.cons rfl (.cons rfl (.cons rfl (.cons rfl (.cons rfl (.cons rfl (.nil _)))))))) (rfl) fun j hF => ?_
  · simp
  refine .seq ?_
  refine .region rfl ?_
  refine .p (.lss (.t rfl) (.t rfl) ?_)
  refine .nil ?_
  refine .seq ?_
  refine .condP (.t rfl) (fun hc56 => ?_) (fun hc56 => ?_)
  · refine .skip ?_
    refine .seq ?_
    refine .block ?_
    refine .seq ?_
    refine .region rfl ?_
    refine .p (.idx ty67 Tryd.underlying72 (.t rfl) (.t rfl) (by first | omega | (simp; done) | (simp; omega) | (simp at *; omega)) (by first | omega | (simp; done) | (simp; omega) | (simp at *; omega)) (.p (.ldP ty67 (.t rfl) (.h (.alloc ty67 fun b17 => .n (.stW ty67 (.t rfl) (.t rfl) .z ?_))))))
    refine .nil ?_
    refine .seq ?_
    refine .draw (by kernel_rfl) 20 [[], [], [], [(59, 0), (60, 1), (61, 2)], [], [], [], [(63, 4), (64, 5), (65, 6)], [(62, 3), (66, 7)], [(67, 8)], [], [], [], [(69, 10), (70, 11), (71, 12)], [], [], [], [(73, 14), (74, 15), (75, 16)], [(72, 13), (76, 17)], [(68, 9), (77, 18)]] rfl (by kernel_rfl) rfl ?_
    refine ⟨_, OpP.ldP ty32 (.t rfl) rfl, ?_⟩
    refine ⟨_, OpP.ldP ty28 (.t rfl) rfl, ?_⟩
    refine ⟨_, OpP.ldW ty67 (.t rfl) .z rfl, ?_⟩
    refine ⟨_, OpP.call1 hG (itemCheckP_c _ _ _ (Nat.le_trans (hl _ (List.getElem_mem _)) (show 2000 ≤ 1000000 by decide))) (.cons (.t rfl) (.cons (.t rfl) (.cons (.t rfl) .nil))) rfl, ?_⟩
    refine ⟨_, OpP.ldP ty32 (.t rfl) rfl, ?_⟩
    refine ⟨_, OpP.ldP ty28 (.t rfl) rfl, ?_⟩
    refine ⟨_, OpP.ldW ty67 (.t rfl) .z rfl, ?_⟩
    refine ⟨_, OpP.call1 hG (rCheckItem_c _ _ _) (.cons (.t rfl) (.cons (.t rfl) (.cons (.t rfl) .nil))) rfl, ?_⟩
    refine ⟨_, OpP.neqI (.t rfl) (.t rfl) rfl, ?_⟩
    refine ⟨_, OpP.move (.t rfl) rfl, ?_⟩
    refine ⟨_, ⟨_, _, rfl, rfl, fun hg69 => OpP.ldP ty32 (.t rfl) rfl⟩, ?_⟩
    refine ⟨_, ⟨_, _, rfl, rfl, fun hg70 => OpP.ldP ty28 (.t rfl) rfl⟩, ?_⟩
    refine ⟨_, ⟨_, _, rfl, rfl, fun hg71 => OpP.ldW ty67 (.t rfl) .z rfl⟩, ?_⟩
    refine ⟨_, ⟨_, _, rfl, rfl, fun hg72 => OpP.call1 hG (itemCheckP_c _ _ _ (Nat.le_trans (hl _ (List.getElem_mem _)) (show 2000 ≤ 1000000 by decide))) (.cons (.o rfl (beq_iff_eq.2 hg72)) (.cons (.o rfl (beq_iff_eq.2 hg72)) (.cons (.o rfl (beq_iff_eq.2 hg72)) .nil))) rfl⟩, ?_⟩
    refine ⟨_, ⟨_, _, rfl, rfl, fun hg73 => OpP.ldP ty32 (.t rfl) rfl⟩, ?_⟩
    refine ⟨_, ⟨_, _, rfl, rfl, fun hg74 => OpP.ldP ty28 (.t rfl) rfl⟩, ?_⟩
    refine ⟨_, ⟨_, _, rfl, rfl, fun hg75 => OpP.ldW ty67 (.t rfl) .z rfl⟩, ?_⟩
    refine ⟨_, ⟨_, _, rfl, rfl, fun hg76 => OpP.call1 hG (rCheckItem_c _ _ _) (.cons (.o rfl (beq_iff_eq.2 hg76)) (.cons (.o rfl (beq_iff_eq.2 hg76)) (.cons (.o rfl (beq_iff_eq.2 hg76)) .nil))) rfl⟩, ?_⟩
    refine ⟨_, ⟨_, _, rfl, rfl, fun hg77 => OpP.neqI (.o rfl (beq_iff_eq.2 hg77)) (.o rfl (beq_iff_eq.2 hg77)) rfl⟩, ?_⟩
    refine ⟨_, OpP.pickOr (.t rfl) (fun hp => (.o rfl (beq_iff_eq.2 hp))) rfl, ?_⟩
    show wpB _ _ _ _ _ _ ((78, _) :: (77, _) :: (76, _) :: (75, _) :: (74, _) :: (73, _) :: (72, _) :: (71, _) :: (70, _) :: (69, _) :: (68, _) :: (67, _) :: (66, _) :: (65, _) :: (64, _) :: (63, _) :: (62, _) :: (61, _) :: (60, _) :: (59, _) :: _) _
    refine .nil ?_
    refine .cond (.t rfl) (fun hc78 => (by exfalso; simp at hc78)) (fun hc78 => ?_)
    refine .skip ?_
    refine .drop ?_
    refine .region rfl ?_
    refine .p (.add (.t rfl) (.i rfl) (by first | omega | (simp; done) | (simp; omega) | (simp at *; omega)) (by first | omega | (simp; done) | (simp; omega) | (simp at *; omega)) (.p (.move (.t rfl) ?_)))
    refine .nil ?_
    refine ⟨j + 1, .cons rfl (.cons rfl (.cons rfl (.cons rfl (.cons rfl (.cons rfl (.cons rfl (.nil _))))))), rfl, ?_, by simp at hc56; omega⟩
    simp at hc56; omega
  · refine .exit ?_
    refine .seq ?_
    refine .region rfl ?_
    refine .p (.ldP ty32 (.t rfl) (.p (.ldP ty28 (.t rfl) (.p (.ldP ty67 (.t rfl) (.p (.call1 hG (itemCheckP_c _ _ _ (by omega)) (.cons (.t rfl) (.cons (.t rfl) (.cons (.t rfl) .nil))) (.p (.eqlI (.t rfl) (.i rfl) (.p (.move (.t rfl) ?_)))))))))))
    refine .go 85 rfl (.t rfl) (fun hg86 => .call1 hG (awake24_c) .nil rfl) ?_
    refine .p (.pickAnd (.t rfl) (fun hp => (.o rfl (beq_iff_eq.2 hp))) (.p (.assign (.t rfl) ?_)))
    refine .nil ?_
    refine .ret ?_
    refine ⟨_, .r1 rfl (.tmp rfl), ?_⟩
    rw [hs38.check]; rfl
end Go.Proofs.YtiekhjbhlekaeaaDoor
set_option linter.unusedVariables false
namespace Go.Fl
open Go.ChangeShapes Go.WideShapes Go.ChangeAt Go.RowKit
def imOf (W : World) : Im := fun b => W.heap[b]?
theorem mem_imOf (W : World) : Mem (imOf W) [] W := ⟨fun b o h => h, by simp, by simp, by simp⟩
theorem Fun.calls {P : Program} {f : FuncId} {args : Array Value} {W : World} {r : Value} (h : Fun P f args (imOf W) (fun v _ => v = r)) :
    Calls P f args W (fun e W' => e = .returned r ∧ Below W.heap.size W W') :=
  (h.run W (mem_imOf W)).mono fun e w' ⟨v, J, he, hc, _, _, _, hv⟩ => ⟨by rw [he, hv], ⟨hc.os, hc.tape, hc.output, hc.size, fun k hk => hc.block k hk (by simp)⟩⟩
theorem cell_plain {W : World} {x : Addr} {v : Value} (h : W.cell? x = some v) : x.spot = none ∧ ∃ cs e fr, W.heap[x.block]? = some (.cells cs e fr) ∧ cs[x.off]? = some v := by
  unfold World.cell? at h
  split at h
  · rename_i c e fr heq
    split at h
    · cases h
    · rename_i hs
      exact ⟨by simpa using hs, c, e, fr, heq, h⟩
  · cases h
theorem words_laid {P : Program} {W : World} {n : String} {d : DataW Unit} {l : List UInt32} {g : Nat} {T E : TypeId} (hg : P.globalNamed n = some g) (ht : (P.globals[g]?).map (·.type) = some T) (hT : P.underlying T = some (.array l.length E))
    (hE : P.underlying E = some (.int .u32)) (hone : P.cellsOf E = 1) (hl : 0 < l.length) (hd : d = .agg (l.map fun k => .lit (.int .u32 (k.toNat : Int)))) (h : laidMet P [(n, d)] W) : Cells (imOf W) g 0 (l.map u32) := by
  obtain ⟨ps, ⟨g2, t, cs, fuel, p, q, hg2, ht2, hvar, htr, _, _⟩, _⟩ := h
  obtain rfl := Option.some.inj (hg.symm.trans hg2)
  obtain rfl := Option.some.inj (ht.symm.trans ht2)
  obtain ⟨xs, m, _, hx, hlen, hxl, hel⟩ := DataW.trod_array hT htr
  have hxd : xs.map (·.1) = l.map fun k => DataW.lit (.int .u32 (k.toNat : Int)) := by
    have := (Prod.mk.inj hx).1
    rw [hd] at this
    injection this with h2
    exact h2.symm
  have hcell : ∀ (i : Nat) (v : Value), (l.map u32)[i]? = some v → cs[i]? = some v := by
    intro i v hv
    have hi : i < l.length := by simpa using (List.getElem?_eq_some_iff.1 hv).1
    have h1 := hel i hi
    rw [hone] at h1
    have hxi : xs[i]? = some (xs[i]'(by omega)) := List.getElem?_eq_getElem (by omega)
    rw [hxi] at h1
    obtain ⟨k, hk1, hk2, _⟩ := DataW.trod_int hE h1
    have hfst : (xs.map (·.1))[i]? = some (DataW.lit (.int .u32 k)) := by rw [List.getElem?_map, hxi, Option.map_some, hk2]
    rw [hxd, List.getElem?_map, List.getElem?_eq_getElem hi] at hfst
    simp at hfst
    have hci : cs.toList[i]? = some (.int .u32 k) := by
      have : ((cs.toList.drop (i * 1)).take 1)[0]? = some (.int .u32 k) := by rw [hk1]; rfl
      simpa [List.getElem?_take, List.getElem?_drop] using this
    rw [List.getElem?_map, List.getElem?_eq_getElem hi, Option.map_some] at hv
    have hv := Option.some.inj hv
    rw [← hv, u32, hfst]
    simpa using hci
  have h0 : ∃ v, (l.map u32)[0]? = some v := ⟨_, List.getElem?_eq_getElem (by simpa using hl)⟩
  obtain ⟨v0, hv0⟩ := h0
  have hc0 := World.var?_cell hg hvar 0
  rw [hcell 0 v0 hv0] at hc0
  obtain ⟨_, cs2, e, fr, hob, _⟩ := cell_plain hc0
  refine ⟨cs2, e, fr, hob, fun i v hv => ?_⟩
  have h3 := World.var?_cell hg hvar i
  rw [hcell i v hv] at h3
  obtain ⟨_, cs3, e3, fr3, hob3, hv3⟩ := cell_plain h3
  have : Obj.cells cs2 e fr = Obj.cells cs3 e3 fr3 := Option.some.inj (hob.symm.trans hob3)
  cases this
  simpa using hv3
end Go.Fl
set_option linter.unusedVariables false
namespace Go.Ab
open Go.Fl Go.RowKit Go.ChangeShapes Go.WideShapes Go.ChangeAt
open Rep (rep)
def Opens (P : Program) (T : TypeId) (α : Type) [Rep α] : Prop := P.cellsOf T = Rep.size α ∧
  ∀ (H : Type) (enc : TypeId × Value → H) (W : World) (base : Nat) (spare : Nat → Bool) (held : Bool) (fuel : Nat) (cs : List Value) (x : DataW H × List MemPlace), DataW.trod enc P W base spare held fuel T cs = some x → ∃ a : α, rep (imOf W) a cs
variable {P : Program} {T E : TypeId}
theorem Opens.i64 (hT : P.underlying T = some (.int .i64)) (hc : P.cellsOf T = 1) : Opens P T Int := ⟨hc, fun H enc W base spare held fuel cs x h => by
  obtain ⟨n, rfl, _, hw⟩ := DataW.trod_int hT h
  simp [Lit.wf, IntKind.min, IntKind.max, IntKind.signed, IntKind.bits] at hw
  exact ⟨n, rfl, by omega, by omega⟩⟩
theorem Opens.u8 (hT : P.underlying T = some (.int .u8)) (hc : P.cellsOf T = 1) : Opens P T UInt8 := ⟨hc, fun H enc W base spare held fuel cs x h => by
  obtain ⟨n, rfl, _, hw⟩ := DataW.trod_int hT h
  simp [Lit.wf, IntKind.min, IntKind.max, IntKind.signed, IntKind.bits] at hw
  refine ⟨UInt8.ofNat n.toNat, ?_⟩
  show [Value.int .u8 n] = [Fl.u8 _]
  unfold Fl.u8
  congr 2; simp; omega⟩
theorem add_add (a : Addr) (i j : Nat) : (a.add i).add j = a.add (i + j) := by
  unfold Addr.add
  rcases a with ⟨b, o, _ | s⟩ <;> by_cases hi : i = 0 <;> by_cases hj : j = 0 <;> simp [hi, hj, Nat.add_assoc]
theorem Opens.slice {α : Type} {r : Rep α} (hT : P.underlying T = some (.slice E)) (hc : P.cellsOf T = 1) (hE : Opens P E α) (hp : 0 < Rep.size α) : Opens P T (List α) := ⟨hc, fun H enc W base spare held fuel cs x h => by
  rcases DataW.trod_slice hT h with ⟨rfl, _⟩ | ⟨a, len, cap, elems, rest, n, _, rfl, _, hb, hl, hm, hel, hget, _⟩
  · exact ⟨[], _, rfl, [], Sl.nil _ _, rfl⟩
  · have key : ∀ k, k ≤ len → ∃ (l : List α) (xs : List Value), l.length = k ∧ repL (imOf W) l xs ∧ ∀ i v, xs[i]? = some v → W.cell? (a.add i) = some v := by
      intro k
      induction k with
      | zero => exact fun _ => ⟨[], [], rfl, rfl, fun i v hv => by simp at hv⟩
      | succ k ih =>
        intro hk
        obtain ⟨l, xs, h1, h2, h3⟩ := ih (by omega)
        have hg := hget k (by omega)
        rw [List.getElem?_eq_getElem (by omega)] at hg
        obtain ⟨c, hc1, hc2⟩ := Option.bind_eq_some_iff.1 hg
        obtain ⟨_, hcl, hcell⟩ := World.cells?_some hc1
        obtain ⟨y, hy⟩ := hE.2 H enc W base spare held n c _ hc2
        refine ⟨l ++ [y], xs ++ c, by simp [h1], h2.append (.one hy), fun i v hv => ?_⟩
        have hxl : xs.length = k * Rep.size α := by rw [h2.len, h1]
        by_cases hi : i < xs.length
        · rw [List.getElem?_append_left hi] at hv; exact h3 i v hv
        · rw [List.getElem?_append_right (by omega)] at hv
          have hj := (List.getElem?_eq_some_iff.1 hv).1
          have := hcell (i - xs.length) (by omega)
          rw [hv, hE.1, add_add, ← hxl, show xs.length + (i - xs.length) = i by omega] at this
          exact this
    obtain ⟨l, xs, h1, h2, h3⟩ := key len (Nat.le_refl _)
    have hxl := h2.len
    refine ⟨l, _, rfl, xs, ⟨_, _, by rw [h1], h2.len, by omega, hm, (fun h => by cases h), fun hne => ?_⟩, h2⟩
    rcases a with ⟨ab, ao, ags⟩
    obtain ⟨v0, hv0⟩ : ∃ v, xs[0]? = some v := ⟨_, List.getElem?_eq_getElem (List.length_pos_iff.2 hne)⟩
    have hc0 := h3 0 v0 hv0
    obtain ⟨hsp, cs, e, fr, hob, _⟩ := cell_plain hc0
    have hsp2 : ags = none := by
      cases ags with
      | none => rfl
      | some q =>
        unfold Addr.add at hsp
        simp at hsp
    subst hsp2
    rw [Addr.add_plain] at hob
    have hob : W.heap[ab]? = some (Obj.cells cs e fr) := hob
    refine ⟨ab, ao, rfl, cs, e, fr, hob, fun i v hv => ?_⟩
    have hcv := h3 i v hv
    rw [Addr.add_plain] at hcv
    obtain ⟨_, cs2, e2, fr2, hob2, hv2⟩ := cell_plain hcv
    have : Obj.cells cs e fr = Obj.cells cs2 e2 fr2 := Option.some.inj (hob.symm.trans hob2)
    cases this
    exact hv2⟩
theorem Opens.array {α : Type} {r : Rep α} {n : Nat} (hT : P.underlying T = some (.array n E)) (hc : P.cellsOf T = n * Rep.size α) (hE : Opens P E α) : Opens P T (Arr n α) := ⟨hc, fun H enc W base spare held fuel cs x h => by
  obtain ⟨xs, m, _, _, hlen, hxl, hel⟩ := DataW.trod_array hT h
  have key : ∀ k, k ≤ n → ∃ l : List α, l.length = k ∧ repL (imOf W) l (cs.take (k * Rep.size α)) := by
    intro k
    induction k with
    | zero => exact fun _ => ⟨[], rfl, by simp [repL]⟩
    | succ k ih =>
      intro hk
      obtain ⟨l, h1, h2⟩ := ih (by omega)
      have hg := hel k (by omega)
      rw [List.getElem?_eq_getElem (by omega), hE.1] at hg
      obtain ⟨y, hy⟩ := hE.2 H enc W base spare held m _ _ hg
      refine ⟨l ++ [y], by simp [h1], ?_⟩
      have e : cs.take ((k + 1) * Rep.size α) = cs.take (k * Rep.size α) ++ (cs.drop (k * Rep.size α)).take (Rep.size α) := by
        rw [Nat.succ_mul, List.take_add]
      rw [e]
      exact h2.append (.one hy)
  obtain ⟨l, h1, h2⟩ := key n (Nat.le_refl _)
  refine ⟨⟨l, h1⟩, ?_⟩
  show repL (imOf W) l cs
  rwa [List.take_of_length_le (by rw [hlen, hc]; exact Nat.le_refl _)] at h2⟩
inductive OpensF (P : Program) : List Field → Nat → (β : Type) → Rep β → Prop
  | nil {off : Nat} : OpensF P [] off Unit inferInstance
  | cons {f : Field} {fs : List Field} {off : Nat} {α β : Type} {r : Rep α} {s : Rep β} (h1 : f.offset = off) (h2 : Opens P f.type α) (t : OpensF P fs (off + Rep.size α) β s) : OpensF P (f :: fs) off (α × β) inferInstance
theorem OpensF.run {fs : List Field} {off : Nat} {β : Type} {s : Rep β} (h : OpensF P fs off β s) {H : Type} {enc : TypeId × Value → H} {W : World} {base : Nat} {spare : Nat → Bool} {held : Bool} {n : Nat} {cs : List Value} (hl : cs.length = off + Rep.size β)
    (hg : ∀ (i : Nat) (f : Field), fs[i]? = some f → ∃ x, DataW.trod enc P W base spare held n f.type ((cs.drop f.offset).take (P.cellsOf f.type)) = some x) : ∃ b : β, rep (imOf W) b (cs.drop off) := by
  induction h with
  | nil => exact ⟨(), List.drop_eq_nil_of_le (by rw [hl]; exact Nat.le_refl _)⟩
  | @cons f fs off α β r s h1 h2 t ih =>
    obtain ⟨x, hx⟩ := hg 0 f rfl
    rw [h1, h2.1] at hx
    obtain ⟨y, hy⟩ := h2.2 H enc W base spare held n _ _ hx
    obtain ⟨b, hb⟩ := ih (by rw [hl]; show off + (Rep.size α + Rep.size β) = _; omega) (fun i f' hf => hg (i + 1) f' (by simpa using hf))
    refine ⟨(y, b), _, _, ?_, hy, hb⟩
    rw [← List.drop_drop, List.take_append_drop]
theorem Opens.struct {S β : Type} [s : Rep β] {fs : Array Field} (f : S → β) (g : β → S) (hfg : ∀ b, f (g b) = b) (hT : P.underlying T = some (.struct fs)) (hc : P.cellsOf T = Rep.size β) (h : OpensF P fs.toList 0 β s) : @Opens P T S (Rep.via f) :=
  letI : Rep S := Rep.via f
  ⟨hc, fun H enc W base spare held fuel cs x hx => by
    obtain ⟨xs, n, _, _, hlen, hxl, hel⟩ := DataW.trod_struct hT hx
    obtain ⟨b, hb⟩ := h.run (W := W) (enc := enc) (base := base) (spare := spare) (held := held) (n := n) (cs := cs) (by rw [hlen, hc]; omega) (fun i f hf => by
      have hf' : fs[i]? = some f := by simpa using hf
      have := hel i f hf'
      have hi := (Array.getElem?_eq_some_iff.1 hf').1
      exact ⟨_, this.trans (List.getElem?_eq_getElem (by omega))⟩)
    exact ⟨g b, by show rep (imOf W) (f (g b)) cs; rw [hfg]; simpa using hb⟩⟩
theorem Opens.val {α : Type} {r : Rep α} (h : Opens P T α) {H : Type} {enc : TypeId × Value → H} {W : World} {base : Nat} {spare : Nat → Bool} {held : Bool} {v : Value} {d : DataW H} {p : List MemPlace} (ht : DataW.Trod enc P W base spare held T v d p)
    (hv : ∀ cs : List Value, v.cells.toList = cs → v = asV (Rep.agg α) cs) : ∃ a : α, RepV (imOf W) (.v a) v := by
  obtain ⟨fuel, hf⟩ := ht
  obtain ⟨a, ha⟩ := h.2 H enc W base spare held fuel _ _ hf
  exact ⟨a, _, ha, hv _ rfl⟩
theorem FunA.calls {G : Gl} {f : FuncId} {ags : List AV} {vs : List Value} {W : World} (h : FunA G P f ags (fun r => r = .v true)) (hG : G.p (imOf W)) (hv : RepVs (imOf W) ags vs) :
    Calls P f vs.toArray W (fun e W' => e = .returned (.bool true) ∧ Below W.heap.size W W') :=
  Fun.calls ((h (imOf W) vs hG hv).mono fun v J _ ⟨r, h1, h2⟩ => by
    subst h2
    obtain ⟨cs, rfl, rfl⟩ := h1
    rfl)
theorem okWide_agg {dd : TypeDesc} (hT : P.underlying T = some dd) (hr : isRow dd = true) {W : World} {r : Reach} {base : Nat} {v : Value} (h : Value.okWide P W r base T v) : ∃ cs, v = .agg cs := by
  unfold Value.okWide at h
  rw [hT] at h
  cases dd <;> first | (simp [isRow] at hr; done) | (obtain ⟨cs, h1, _⟩ := h; exact ⟨cs, h1⟩)
theorem form_one {v : Value} (h : v.cells = #[v]) : ∀ cs : List Value, v.cells.toList = cs → v = asV false cs := fun cs hc => by
  rw [h] at hc; subst hc; rfl
theorem form_agg {xs : Array Value} : ∀ cs : List Value, (Value.agg xs).cells.toList = cs → Value.agg xs = asV true cs := fun cs hc => by
  subst hc; simp [asV, Value.cells]
end Go.Ab
set_option maxRecDepth 1000000
set_option linter.unusedVariables false
namespace Go.Proofs.YtiekhjbhlekaeaaDoor
open Go.Fl Go.Ab Go.Mac Go.Sha
open Go.ChangeShapes Go.WideShapes Go.ChangeAt Go.RowKit
theorem ownK : ownKnob Tryd.prog.godebug = none := by kernel_rfl
theorem laidOutK : laidOutB Tryd.prog = true := by kernel_rfl
noncomputable def kWorld (os : Os) : World :=
  let w0 := World.holding Tryd.prog os ⟨#[], #[], []⟩
  { w0 with heap := w0.heap.modify 1 fun
      | .cells _ t frozen => .cells (kk.map Fl.u32).toArray t frozen
      | o => o }
def kLaid : List (String × DataW Unit) := [("macaroon/sha.k", Rows.laid_macaroon_sha_k)]
set_option maxRecDepth 100000 in
theorem k_met (os : Os) (args : Array Value) : laidMet Tryd.prog kLaid ((kWorld os).forCall (fun _ _ => 0) ⟨#[], args, []⟩).memory :=
  laidMet_of_run' 8 (by kernel_rfl) (by kernel_rfl)
set_option maxRecDepth 100000 in
theorem k_cells {W : World} (h : laidMet Tryd.prog kLaid W) : gl.p (imOf W) :=
  words_laid (l := kk) (T := 132) (E := 112) (by kernel_rfl) (by kernel_rfl) Tryd.underlying132 Tryd.underlying112 (by kernel_rfl) (by decide) rfl h
theorem op5 : Opens Tryd.prog 5 UInt8 := .u8 Tryd.underlying5 (by kernel_rfl)
theorem op28 : Opens Tryd.prog 28 (Arr 32 UInt8) := .array Tryd.underlying28 (by kernel_rfl) op5
theorem op3 : Opens Tryd.prog 3 Int := .i64 Tryd.underlying3 (by kernel_rfl)
theorem op22 : Opens Tryd.prog 22 (List Int) := .slice Tryd.underlying22 (by kernel_rfl) op3 (by decide)
theorem op23 : Opens Tryd.prog 23 (List UInt8) := .slice Tryd.underlying23 (by kernel_rfl) op5 (by decide)
theorem op67 : Opens Tryd.prog 67 G_api_Item := .struct G_api_Item.f (fun b => ⟨b.1, b.2.1, b.2.2.1, b.2.2.2.1, b.2.2.2.2.1, b.2.2.2.2.2.1⟩) (fun _ => rfl) Tryd.underlying67 (by kernel_rfl) (.cons rfl op3 (.cons rfl op3 (.cons rfl op3 (.cons rfl op28 (.cons rfl op23 (.cons rfl op28 .nil))))))
end Go.Proofs.YtiekhjbhlekaeaaDoor
set_option maxRecDepth 1000000
set_option linter.unusedVariables false
set_option linter.unusedSimpArgs false
namespace Go.Proofs.YtiekhjbhlekaeaaDoor
open Go.Fl Go.Ab Go.Mac Go.Sha
theorem ofNat_inj {a b : Nat} (ha : a < 256) (hb : b < 256) (h : UInt8.ofNat a = UInt8.ofNat b) : a = b := by
  have := congrArg UInt8.toNat h
  simp at this; omega
theorem numL_inj : ∀ (a b : Nat) (s t : List UInt8), numL a ++ s = numL b ++ t → a = b ∧ s = t := by
  intro a
  induction a using Nat.strongRecOn with
  | _ a ih =>
    intro b s t h
    by_cases ha : a < 128
    · by_cases hb : b < 128
      · rw [numL_lt ha, numL_lt hb] at h
        simp only [List.cons_append, List.nil_append, List.cons.injEq] at h
        exact ⟨ofNat_inj (by omega) (by omega) h.1, h.2⟩
      · rw [numL_lt ha, numL_ge hb] at h
        simp only [List.cons_append, List.nil_append, List.cons.injEq] at h
        have := ofNat_inj (by omega) (by omega) h.1
        omega
    · by_cases hb : b < 128
      · rw [numL_ge ha, numL_lt hb] at h
        simp only [List.cons_append, List.nil_append, List.cons.injEq] at h
        have := ofNat_inj (by omega) (by omega) h.1
        omega
      · rw [numL_ge ha, numL_ge hb] at h
        simp only [List.cons_append, List.cons.injEq] at h
        have h1 := ofNat_inj (by omega) (by omega) h.1
        obtain ⟨h2, h3⟩ := ih (a / 128) (by omega) (b / 128) s t h.2
        exact ⟨by omega, h3⟩
theorem itemBytes_inj {x y : Item} (hx : itemErr x = 0) (hy : itemErr y = 0) (h : itemBytes x = itemBytes y) : x.Place = y.Place ∧ x.Kind = y.Kind ∧ x.Number = y.Number ∧ x.Node = y.Node ∧ x.Box = y.Box := by
  have ox := itemOk hx
  have oy := itemOk hy
  unfold itemBytes at h
  have h := List.append_cancel_left h
  simp only [List.append_assoc] at h
  obtain ⟨h1, h⟩ := numL_inj _ _ _ _ h
  obtain ⟨h2, h⟩ := numL_inj _ _ _ _ h
  obtain ⟨h3, h⟩ := numL_inj _ _ _ _ h
  obtain ⟨h4, h⟩ := List.append_inj h (by rw [Arr.len, Arr.len])
  obtain ⟨h5, h6⟩ := numL_inj _ _ _ _ h
  have := ox.place; have := oy.place; have := ox.kind; have := oy.kind; have := ox.num; have := oy.num
  exact ⟨by omega, by omega, by omega, Arr.ext h4, h6⟩
theorem sameItem_iff {x y : Item} : sameItem x y = true ↔ x = y := by
  constructor
  · intro h
    simp only [sameItem, Bool.and_eq_true, decide_eq_true_eq] at h
    obtain ⟨⟨⟨⟨⟨h1, h2⟩, h3⟩, h4⟩, h5⟩, h6⟩ := h
    cases x; cases y; simp_all
  · rintro rfl; exact sameItem_self x
def ff0 : Alg := ⟨true, default, 0, [], []⟩
def withTag (x : Item) (t : Tag) : Item := { x with Tag := t }
theorem ff_1 (k : Tag) {x : Item} (hx : itemErr x = 0) : algSign ff0 k x = (⟨true, default, 0, [⟨k, itemBytes x, symTag 109 1⟩], []⟩, withTag x (symTag 109 1), 0) := by
  have := itemBytes_len (itemOk hx)
  unfold algSign
  rw [hx, if_neg (by decide), algMac_new (by omega) rfl (by decide)]
  rfl
theorem ff_2 (k : Tag) {x y : Item} (hx : itemErr x = 0) (hy : itemErr y = 0) : ∃ a z, algSign ⟨true, default, 0, [⟨k, itemBytes x, symTag 109 1⟩], []⟩ k y = (a, z, 0) ∧ a.Macs.length ≤ 2 ∧ z.Box = y.Box ∧
    ∀ i key, itemCheck a key i = 0 ↔ key = k ∧ (i = withTag x (symTag 109 1) ∨ i = z) := by
  have ly := itemBytes_len (itemOk hy)
  have hne : symTag 109 1 ≠ symTag 109 2 := by decide +kernel
  by_cases e : itemBytes x = itemBytes y
  · refine ⟨_, withTag y (symTag 109 1), by
      unfold algSign
      rw [hy, if_neg (by decide)]
      have : algMac ⟨true, default, 0, [⟨k, itemBytes x, symTag 109 1⟩], []⟩ k (itemBytes y) = (⟨true, default, 0, [⟨k, itemBytes x, symTag 109 1⟩], []⟩, symTag 109 1, 0) := by
        unfold algMac algFind; rw [if_neg (by omega)]; simp [macEq, e]
      rw [this]; rfl, by simp, rfl, fun i key => ?_⟩
    have hxy : withTag x (symTag 109 1) = withTag y (symTag 109 1) := by
      obtain ⟨h1, h2, h3, h4, h5⟩ := itemBytes_inj hx hy e
      cases x; cases y; simp_all [withTag]
    rw [← hxy, or_self]
    unfold itemCheck
    by_cases hi : itemErr i = 0
    · rw [hi, if_neg (by decide)]
      by_cases hk : key = k
      · subst hk
        by_cases hb : itemBytes x = itemBytes i
        · have : algLook ⟨true, default, 0, [⟨key, itemBytes x, symTag 109 1⟩], []⟩ key (itemBytes i) = (symTag 109 1, true) := by simp [algLook, algEntry, algFind, macEq, hb]
          rw [this]
          obtain ⟨h1, h2, h3, h4, h5⟩ := itemBytes_inj hx hi hb
          constructor
          · intro h
            refine ⟨rfl, ?_⟩
            have ht : i.Tag = symTag 109 1 := by
              by_cases ht : symTag 109 1 = i.Tag
              · exact ht.symm
              · simp [ht] at h
            cases x; cases i; simp_all [withTag]
          · rintro ⟨_, rfl⟩; simp [withTag]
        · have : algLook ⟨true, default, 0, [⟨key, itemBytes x, symTag 109 1⟩], []⟩ key (itemBytes i) = (default, false) := by simp [algLook, algEntry, algFind, macEq, hb]
          rw [this]
          simp only [true_or, if_true]
          constructor
          · intro h; cases h
          · rintro ⟨_, rfl⟩; exact absurd rfl hb
      · have : algLook ⟨true, default, 0, [⟨k, itemBytes x, symTag 109 1⟩], []⟩ key (itemBytes i) = (default, false) := by simp [algLook, algEntry, algFind, macEq, Ne.symm hk]
        rw [this]
        simp only [true_or, if_true]
        exact ⟨fun h => (by cases h), fun h => absurd h.1 hk⟩
    · rw [if_pos hi]
      exact ⟨fun h => absurd h hi, by rintro ⟨_, rfl⟩; exact absurd hx hi⟩
  · refine ⟨⟨true, default, 0, [⟨k, itemBytes x, symTag 109 1⟩, ⟨k, itemBytes y, symTag 109 2⟩], []⟩, withTag y (symTag 109 2), by
      unfold algSign
      rw [hy, if_neg (by decide), algMac_new (by omega) (by simp [algFind, macEq, e]) (by simp)]
      rfl, by simp, rfl, fun i key => ?_⟩
    unfold itemCheck
    by_cases hi : itemErr i = 0
    · rw [hi, if_neg (by decide)]
      by_cases hk : key = k
      · subst hk
        by_cases hb : itemBytes x = itemBytes i
        · have : algLook ⟨true, default, 0, [⟨key, itemBytes x, symTag 109 1⟩, ⟨key, itemBytes y, symTag 109 2⟩], []⟩ key (itemBytes i) = (symTag 109 1, true) := by simp [algLook, algEntry, algFind, macEq, hb]
          rw [this]
          obtain ⟨h1, h2, h3, h4, h5⟩ := itemBytes_inj hx hi hb
          constructor
          · intro h
            refine ⟨rfl, .inl ?_⟩
            have ht : i.Tag = symTag 109 1 := by
              by_cases ht : symTag 109 1 = i.Tag
              · exact ht.symm
              · simp [ht] at h
            cases x; cases i; simp_all [withTag]
          · rintro ⟨_, rfl | rfl⟩
            · simp [withTag]
            · exact absurd hb e
        · by_cases hb2 : itemBytes y = itemBytes i
          · have : algLook ⟨true, default, 0, [⟨key, itemBytes x, symTag 109 1⟩, ⟨key, itemBytes y, symTag 109 2⟩], []⟩ key (itemBytes i) = (symTag 109 2, true) := by simp [algLook, algEntry, algFind, macEq, hb, hb2]
            rw [this]
            obtain ⟨h1, h2, h3, h4, h5⟩ := itemBytes_inj hy hi hb2
            constructor
            · intro h
              refine ⟨rfl, .inr ?_⟩
              have ht : i.Tag = symTag 109 2 := by
                by_cases ht : symTag 109 2 = i.Tag
                · exact ht.symm
                · simp [ht] at h
              cases y; cases i; simp_all [withTag]
            · rintro ⟨_, rfl | rfl⟩
              · exact absurd rfl hb
              · simp [withTag]
          · have : algLook ⟨true, default, 0, [⟨key, itemBytes x, symTag 109 1⟩, ⟨key, itemBytes y, symTag 109 2⟩], []⟩ key (itemBytes i) = (default, false) := by simp [algLook, algEntry, algFind, macEq, hb, hb2]
            rw [this]
            simp only [true_or, if_true]
            constructor
            · intro h; cases h
            · rintro ⟨_, rfl | rfl⟩
              · exact absurd rfl hb
              · exact absurd rfl hb2
      · have : algLook ⟨true, default, 0, [⟨k, itemBytes x, symTag 109 1⟩, ⟨k, itemBytes y, symTag 109 2⟩], []⟩ key (itemBytes i) = (default, false) := by simp [algLook, algEntry, algFind, macEq, Ne.symm hk]
        rw [this]
        simp only [true_or, if_true]
        exact ⟨fun h => (by cases h), fun h => absurd h.1 hk⟩
    · rw [if_pos hi]
      refine ⟨fun h => absurd h hi, ?_⟩
      rintro ⟨_, rfl | rfl⟩
      · exact absurd hx hi
      · exact absurd hy hi
theorem ff_chk {a : Alg} {k : Tag} {x z : Item} (h : ∀ i key, itemCheck a key i = 0 ↔ key = k ∧ (i = x ∨ i = z)) (i : Item) (key : Tag) : decide (itemCheck a key i = 0) = (decide (key = k) && (sameItem i x || sameItem i z)) := by
  rw [Bool.eq_iff_iff]
  simp only [decide_eq_true_eq, Bool.and_eq_true, Bool.or_eq_true, sameItem_iff]
  exact h i key
theorem FeedFree_c (raw : Item) (deck how : List Int) (n : Int) (key : Tag) : FunA gl Tryd.prog 14 [.v raw, .v deck, .v how, .v n, .v key] (fun r => r = .v true) := by
  refine FunA.intro Tryd.func14 rfl (by kernel_rfl) 105 rfl rfl _ rfl fun C hC hG => ?_
  have hraw := cut1200 raw.Box
  refine .seq ?_
  refine .region rfl ?_
  refine .h (.box (.t rfl) fun b5 => .h (.box (.t rfl) fun b9 => .p (.assign .b ?_)))
  refine .nil ?_
  refine .seq ?_
  refine .region rfl ?_
  refine .p (.fldW G_api_Item.l4 fd67_4 rfl (.t rfl) (.p (.ldF (fun x => x.Box) ty23 (.t rfl) (.s .z) (fun _ => rfl) (.p (.fldW G_api_Item.l4 fd67_4 rfl (.t rfl) (.p (.ldF (fun x => x.Box) ty23 (.t rfl) (.s .z) (fun _ => rfl) (.p (.len Tryd.underlying23 (.t rfl) (.p (.minI (.t rfl) (.i rfl) ?_)))))))))))
  refine .p (.slHi ty5 Tryd.underlying23 (.t rfl) (.t rfl) (by first | omega | (simp; done) | (simp; omega) | (simp at *; omega)) (by first | omega | (simp; done) | (simp; omega) | (simp at *; omega)) (.p (.fldW G_api_Item.l4 fd67_4 rfl (.t rfl) (.n (.stF (fun y x => { x with Box := y }) ty23 (.t rfl) (.t rfl) (.s .z) (fun _ _ => rfl) ?_)))))
  refine .nil ?_
  refine .seq ?_
  refine .region rfl ?_
  refine .p (.move (.t rfl) (.h (.call0 hG (deckNew_c _) (.cons (.t rfl) .nil) fun r31 Hs31 hr31 => ?_)))
  obtain ⟨b31, rfl, rfl⟩ := hr31
  show wpB _ _ _ _ _ _ _ ((true, _) :: _)
  refine .p (.assign (.t rfl) ?_)
  refine .nil ?_
  refine .seq ?_
  refine .region rfl ?_
  refine .p (.move (.t rfl) (.h (.callM hG (Tag_deck_c _ _ (by first | assumption | exact deckNew_ok _)) .z (.cons (.t rfl) .nil) (by rintro _ _ ⟨_, _, _, _, rfl⟩; exact ⟨_, rfl⟩) fun r33 B33 hr33 => ?_)))
  obtain ⟨k33, d33, hd33, rfl, hB⟩ := hr33
  cases hB
  refine .h (.alloc ty28 fun b12 => .n (.stW ty28 (.t rfl) (.t rfl) .z ?_))
  refine .nil ?_
  refine .seq ?_
  refine .frzOb hC .z ?_
  refine .asP 12 rfl .z ?_
  refine .drawZ [[false, false, false, false], [false, true, false, false], [false, true, false, false], [false, true, false, false]] [[false, true, false, false], [false, true, false, false], [false, false, false, false], [], [false, true, false, false], [false, true, false, false], [false, true, false, false], [false, true, false, false], [false, true, false, false], [], [], [], [], [false, true, false, false]] [[], [4, 5, 6, 7, 8, 13], [], []] [(9, (⟨G_api_Algebra, inferInstance, default⟩ : AT)), (10, (⟨G_api_Item, inferInstance, default⟩ : AT))] 1 (by kernel_rfl) 14 [[], [], [], [(37, 2)], [(35, 0), (36, 1), (38, 3)], [(39, 4)], [(34, 5)], [(34, 5)], [(34, 5)], [], [], [(13, 9), (40, 6)], [(14, 10), (41, 7)], [(42, 8)]] [3, 11, 12] rfl (by kernel_rfl) rfl (by kernel_rfl) rfl (by decide) (by simp) (List.forall_mem_cons.2 ⟨fun o ho => by obtain rfl := Option.some.inj (show some _ = some o from ho); exact ⟨rfl, fun _ _ => OpH.alloc ty32 fun b => ⟨b, rfl, rfl⟩⟩, (List.forall_mem_cons.2 ⟨fun o ho => by obtain rfl := Option.some.inj (show some _ = some o from ho); exact ⟨rfl, fun _ _ => OpH.alloc ty67 fun b => ⟨b, rfl, rfl⟩⟩, (fun p hp => by cases hp)⟩)⟩) (by kernel_rfl) rfl ?_
  refine ⟨_, fun H => OpP.bS1 G_api_Algebra.l0 rfl ty32 fo32 (fun c0 => (⟨c0, default, 0, [], []⟩ : G_api_Algebra)) (fun _ => rfl) rfl rfl .b rfl, ?_⟩
  refine ⟨_, fun H => OpP.ldP ty28 (.t rfl) rfl, ?_⟩
  refine ⟨_, fun H => OpP.move (.t rfl) rfl, ?_⟩
  refine .inl ?_
  refine .inl ?_
  refine .inl ?_
  refine .inl ?_
  refine .inl ?_
  refine .inl ?_
  refine .inl ?_
  refine .inl ?_
  refine .inl ?_
  refine .inl ?_
  refine .inl ?_
  refine ⟨rfl, ?_⟩
  refine ⟨⟨fun k => List.getD [(true, .none_), (true, .none_), (true, .none_), (true, .none_)] k (true, .none_), rfl⟩, fun Ys4 => ?_⟩
  refine OpH.callM hG (made24_c _ _ (by assumption)) (Hole.app (Hole.app (.s .z))) (.cons (.t rfl) .nil) (by rintro _ _ ⟨_, _, _, _, _, rfl⟩; exact ⟨_, rfl⟩) fun r38 B38 hr38 => ?_
  obtain ⟨x38, ⟨hx38, hxl38⟩, d38, hd38, rfl, hB⟩ := hr38
  cases hB
  refine ⟨[], _, rfl, ?_⟩
  refine ⟨_, fun H => OpP.call1 hG (sign_as (by omega) (by decide) (ff_1 k33 hx38)) (.cons (.t rfl) (.cons (.t rfl) (.cons (.t rfl) .nil))) rfl, ?_⟩
  refine ⟨_, fun H => OpP.move (.t rfl) rfl, ?_⟩
  refine ⟨_, fun H => OpP.ext3_0 (.t rfl) rfl, ?_⟩
  refine ⟨_, fun H => OpP.ext3_1 (.t rfl) rfl, ?_⟩
  refine ⟨_, fun H => OpP.ext3_2 (.t rfl) rfl, ?_⟩
  refine ⟨_, fun H => OpP.assign (.t rfl) rfl, ?_⟩
  refine ⟨⟨fun k => List.getD [(true, .none_), _, (true, .none_), (true, .none_)] k (true, .none_), rfl⟩, fun ws4 => ?_⟩
  refine ⟨⟨fun k => List.getD [(true, .none_), _, (true, .none_), (true, .none_)] k (true, .none_), rfl⟩, fun Ys4 => ?_⟩
  refine OpH.stW ty32 (.t rfl) (.t rfl) .z ?_
  refine ⟨[_, _], _, rfl, ?_⟩
  refine ⟨⟨fun k => List.getD [(true, .none_), _, (true, .none_), (true, .none_)] k (true, .none_), rfl⟩, fun Ys4 => ?_⟩
  refine OpH.stW ty67 (.t rfl) (.t rfl) (.s .z) ?_
  refine ⟨[_, _], _, rfl, ?_⟩
  refine ⟨⟨fun k => List.getD [(true, .none_), _, (true, .none_), (true, .none_)] k (true, .none_), rfl⟩, fun _ => ?_⟩
  show wpB _ _ _ _ _ _ ((15, _) :: (14, _) :: (13, _) :: (42, _) :: (41, _) :: (40, _) :: (34, _) :: (39, _) :: (38, _) :: (37, _) :: (36, _) :: (35, _) :: _) _
  refine .nil ?_
  refine .seq ?_
  refine .drawZ [[false, false, false, false, false, false], [false, false, false, true, false, false], [true, false, false, true, false, false], [true, false, false, true, false, false]] [[false, false, false, true, false, false], [false, false, false, true, false, false], [false, false, false, false, false, false], [], [false, false, false, true, false, false], [false, false, false, true, false, false], [false, false, false, true, false, false], [true, false, false, true, false, false], [true, false, false, true, false, false], [], [], [], [true, false, false, true, false, false]] [[], [4, 5, 6, 7, 8, 12], [], []] [(9, (⟨G_api_Item, inferInstance, default⟩ : AT))] 2 (by kernel_rfl) 13 [[], [], [], [(46, 2)], [(44, 0), (45, 1), (47, 3)], [(48, 4)], [(43, 5)], [(43, 5)], [(43, 5)], [], [(49, 6)], [(16, 9), (50, 7)], [(51, 8)]] [3, 10, 11] rfl (by kernel_rfl) rfl (by kernel_rfl) rfl (by decide) (by simp) (List.forall_mem_cons.2 ⟨fun o ho => by obtain rfl := Option.some.inj (show some _ = some o from ho); exact ⟨rfl, fun _ _ => OpH.alloc ty67 fun b => ⟨b, rfl, rfl⟩⟩, (fun p hp => by cases hp)⟩) (by kernel_rfl) rfl ?_
  refine ⟨_, fun H => OpP.ldW ty32 (.t rfl) (Hole.app .z) rfl, ?_⟩
  refine ⟨_, fun H => OpP.ldP ty28 (.t rfl) rfl, ?_⟩
  refine ⟨_, fun H => OpP.move (.t rfl) rfl, ?_⟩
  refine .inl ?_
  refine .inl ?_
  refine .inl ?_
  refine .inl ?_
  refine .inl ?_
  refine .inl ?_
  refine .inl ?_
  refine .inl ?_
  refine .inl ?_
  refine .inl ?_
  refine ⟨rfl, ?_⟩
  refine ⟨⟨fun k => List.getD [(true, .none_), (true, .none_), (true, .none_), (true, .none_), (true, .none_), (true, .none_)] k (true, .none_), rfl⟩, fun Ys5 => ?_⟩
  refine OpH.callM hG (made24_c _ _ (by assumption)) (Hole.app (Hole.app (.s (.s (.s .z))))) (.cons (.t rfl) .nil) (by rintro _ _ ⟨_, _, _, _, _, rfl⟩; exact ⟨_, rfl⟩) fun r47 B47 hr47 => ?_
  obtain ⟨x47, ⟨hx47, hxl47⟩, d47, hd47, rfl, hB⟩ := hr47
  cases hB
  obtain ⟨a2, z, h2, hm2, hzb, hchk⟩ := ff_2 k33 hx38 hx47
  refine ⟨[], _, rfl, ?_⟩
  refine ⟨_, fun H => OpP.call1 hG (sign_as (by omega) (by simp) h2) (.cons (.t rfl) (.cons (.t rfl) (.cons (.t rfl) .nil))) rfl, ?_⟩
  refine ⟨_, fun H => OpP.move (.t rfl) rfl, ?_⟩
  refine ⟨_, fun H => OpP.ext3_0 (.t rfl) rfl, ?_⟩
  refine ⟨_, fun H => OpP.ext3_1 (.t rfl) rfl, ?_⟩
  refine ⟨_, fun H => OpP.ext3_2 (.t rfl) rfl, ?_⟩
  refine ⟨_, fun H => OpP.assign (.t rfl) rfl, ?_⟩
  refine ⟨⟨fun k => List.getD [(true, .none_), (true, .none_), (true, .none_), _, (true, .none_), (true, .none_)] k (true, .none_), rfl⟩, fun Ys5 => ?_⟩
  refine OpH.stW ty32 (.t rfl) (.t rfl) (Hole.app (Hole.app .z)) ?_
  refine ⟨[], _, rfl, ?_⟩
  refine ⟨⟨fun k => List.getD [_, (true, .none_), (true, .none_), _, (true, .none_), (true, .none_)] k (true, .none_), rfl⟩, fun ws5 => ?_⟩
  refine ⟨⟨fun k => List.getD [_, (true, .none_), (true, .none_), _, (true, .none_), (true, .none_)] k (true, .none_), rfl⟩, fun Ys5 => ?_⟩
  refine OpH.stW ty67 (.t rfl) (.t rfl) .z ?_
  refine ⟨[_], _, rfl, ?_⟩
  refine ⟨⟨fun k => List.getD [_, (true, .none_), (true, .none_), _, (true, .none_), (true, .none_)] k (true, .none_), rfl⟩, fun _ => ?_⟩
  show wpB _ _ _ _ _ _ ((17, _) :: (16, _) :: (51, _) :: (50, _) :: (49, _) :: (43, _) :: (48, _) :: (47, _) :: (46, _) :: (45, _) :: (44, _) :: _) _
  refine .nil ?_
  refine .seq ?_
  refine .seq ?_
  refine .region rfl ?_
  refine .p (.move (.t rfl) (.p (.neqI (.t rfl) (.i rfl) (.p (.move (.t rfl) ?_)))))
  refine .go 54 rfl (.t rfl) (fun hg55 => .move (.t rfl) rfl) ?_
  refine .go 54 rfl (.t rfl) (fun hg56 => .neqI (.o rfl (beq_iff_eq.2 hg56)) (.i rfl) rfl) ?_
  refine .p (.pickOr (.t rfl) (fun hp => (.o rfl (beq_iff_eq.2 hp))) ?_)
  refine .nil ?_
  refine .cond (.t rfl) (fun hc57 => (by exfalso; simp at hc57)) (fun hc57 => ?_)
  refine .skip ?_
  refine .seq ?_
  refine .frzOb hC (.s (.s .z)) ?_
  refine .asP 14 rfl (.s (.s .z)) ?_
  refine .drawZ [[false, false, false, false, false, false, false], [false, false, false, false, false, false, false], [false, false, false, false, false, false, false]] [[false, false, false, false, false, false, false], [false, false, false, false, false, false, false], [], [false, false, false, false, false, false, false], [], []] [] [(5, (⟨G_api_Item, inferInstance, default⟩ : AT))] 2 (by kernel_rfl) 6 [[], [], [(59, 1)], [], [(58, 0), (60, 2), (61, 3)], []] [2, 4] rfl (by kernel_rfl) rfl (by kernel_rfl) rfl (by decide) (by simp) (List.forall_mem_cons.2 ⟨fun o ho => by obtain rfl := Option.some.inj (show some _ = some o from ho); exact ⟨rfl, fun _ _ => OpH.alloc ty67 fun b => ⟨b, rfl, rfl⟩⟩, (fun p hp => by cases hp)⟩) (by kernel_rfl) rfl ?_
  refine ⟨_, fun H => OpP.ldP ty67 (.t rfl) rfl, ?_⟩
  refine ⟨_, fun H => OpP.move (.t rfl) rfl, ?_⟩
  refine .inl ?_
  refine ⟨_, fun H => OpP.move (.t rfl) rfl, ?_⟩
  refine .inl ?_
  refine .inl ?_
  refine ⟨rfl, ?_⟩
  refine ⟨⟨fun k => List.getD [(true, .none_), (true, .none_), (true, .none_), (true, .none_), (true, .none_), (true, .none_), (true, .none_)] k (true, .none_), rfl⟩, fun Ys8 => ?_⟩
  refine OpH.call0 hG (deckNew_c _) (.cons (.t rfl) .nil) fun r60 Hs60 hr60 => ?_
  obtain ⟨b60, rfl, rfl⟩ := hr60
  refine ⟨[_], _, rfl, ?_⟩
  refine ⟨⟨fun k => List.getD [(true, .none_), (true, .none_), (true, .none_), (true, .none_), (true, .none_), (true, .none_), (true, .none_)] k (true, .none_), rfl⟩, fun Ys8 => ?_⟩
  refine OpH.callM hG (spoilt24_c _ _ (deckNew_ok _) _ _) .z (.cons (.t rfl) (.cons (.t rfl) (.cons (.t rfl) .nil))) (by rintro _ _ ⟨_, _, _, _, _, rfl⟩; exact ⟨_, rfl⟩) fun r62 B62 hr62 => ?_
  obtain ⟨y62, hy62, d62, hd62, rfl, hB⟩ := hr62
  cases hB
  refine ⟨[_], _, rfl, ?_⟩
  refine ⟨⟨fun k => List.getD [(true, .none_), (true, .none_), (true, .none_), (true, .none_), (true, .none_), (true, .none_), (true, .none_)] k (true, .none_), rfl⟩, fun ws8 => ?_⟩
  refine ⟨⟨fun k => List.getD [(true, .none_), (true, .none_), (true, .none_), (true, .none_), (true, .none_), (true, .none_), (true, .none_)] k (true, .none_), rfl⟩, fun _ => ?_⟩
  show wpB _ _ _ _ _ _ ((18, _) :: (62, _) :: (61, _) :: (60, _) :: (59, _) :: (58, _) :: _) _
  refine .n (.stW ty67 (.t rfl) (.t rfl) (.s .z) ?_)
  refine .nil ?_
  refine .seq ?_
  refine .seq ?_
  refine .frzOb hC (.s .z) ?_
  refine .asP 18 rfl (.s .z) ?_
  refine .frzOb hC (.s (.s (.s .z))) ?_
  refine .asP 13 rfl (.s (.s (.s .z))) ?_
  refine .frzOb hC (.s (.s .z)) ?_
  refine .asP 16 rfl (.s (.s .z)) ?_
  refine .frzOb hC (.s (.s (.s (.s (.s (.s (.s (.s .z)))))))) ?_
  refine .asP 5 rfl (.s (.s (.s (.s (.s (.s (.s (.s .z)))))))) ?_
  refine .frzOb hC (.s (.s (.s (.s (.s (.s (.s .z))))))) ?_
  refine .asP 9 rfl (.s (.s (.s (.s (.s (.s (.s .z))))))) ?_
  refine .drawC (by kernel_rfl) 10 [[], [], [], [], [(66, 3)], [], [(65, 2), (67, 4), (68, 5)], [(63, 0), (64, 1), (69, 6)], [(70, 7)], []] [4, 6, 7, 8] rfl (by kernel_rfl) rfl (by kernel_rfl) (by decide) ?_
  refine ⟨_, fun H => OpP.ldP ty67 (.t rfl) rfl, ?_⟩
  refine ⟨_, fun H => OpP.ldP ty67 (.t rfl) rfl, ?_⟩
  refine ⟨_, fun H => OpP.ldP ty67 (.t rfl) rfl, ?_⟩
  refine ⟨_, fun H => OpP.move (.t rfl) rfl, ?_⟩
  refine .inl ?_
  refine ⟨_, fun H => OpP.move (.t rfl) rfl, ?_⟩
  refine .inl ?_
  refine .inl ?_
  refine .inl ?_
  refine ⟨_, fun H => OpP.move (.i rfl) rfl, ?_⟩
  refine OpH.call0 hG (deckNew_c _) (.cons (.t rfl) .nil) fun r67 Hs67 hr67 => ?_
  obtain ⟨b67, rfl, rfl⟩ := hr67
  refine OpH.callM hG (spoilt24_c _ _ (deckNew_ok _) _ _) .z (.cons (.t rfl) (.cons (.t rfl) (.cons (.t rfl) .nil))) (by rintro _ _ ⟨_, _, _, _, _, rfl⟩; exact ⟨_, rfl⟩) fun r69 B69 hr69 => ?_
  obtain ⟨y69, hy69, d69, hd69, rfl, hB⟩ := hr69
  cases hB
  refine OpH.buildSlice (α := G_api_Item) ty67 Tryd.underlying72 (.cons (.t rfl) (.cons (.t rfl) (.cons (.t rfl) .nil))) rfl (by decide) fun b70 => ?_
  refine OpH.ofP (OpP.lenOwn Tryd.underlying72 rfl .z ?_)
  show wpB _ _ _ _ _ _ ((72, _) :: (71, _) :: (70, _) :: (69, _) :: (68, _) :: (67, _) :: (66, _) :: (65, _) :: (64, _) :: (63, _) :: _) _
  refine .frzOwn hC .z ?_
  refine .as 70 rfl .z ?_
  have hl : ∀ z ∈ ([⟨raw.Place, raw.Kind, raw.Number, raw.Node, raw.Box.take (min (raw.Box.length : Int) 1200).toNat, raw.Tag⟩, y62, y69] : List Item), z.Box.length ≤ 2000 := by simp [withTag] at hy62 hy69 ⊢; omega
  refine .nil ?_
  refine .block ?_
  refine .loopR (α := Nat) [(9, _), (12, _), (13, _), (14, _), (16, _), (70, _), (71, _)] (fun j R => (72, .v (j : Int)) :: R) (Function.const _ _) (fun j => j ≤ 3) (fun j => 3 - j) (0) (.cons rfl (.cons rfl (.cons rfl (.cons rfl (.cons rfl (.cons rfl (.cons rfl (.nil _)))))))) ?_ (.cons rfl (.cons rfl (.cons rfl (.cons rfl (.cons rfl (.cons rfl (.cons rfl (.cons rfl (.nil _))))))))) (rfl) fun j hF => ?_
  · simp
  refine .seq ?_
  refine .region rfl ?_
  refine .p (.lss (.t rfl) (.t rfl) ?_)
  refine .nil ?_
  refine .seq ?_
  refine .condP (.t rfl) (fun hc73 => ?_) (fun hc73 => ?_)
  · refine .skip ?_
    refine .seq ?_
    refine .block ?_
    refine .seq ?_
    refine .region rfl ?_
    refine .p (.idx ty67 Tryd.underlying72 (.t rfl) (.t rfl) (by first | omega | (simp; done) | (simp; omega) | (simp at *; omega)) (by first | omega | (simp; done) | (simp; omega) | (simp at *; omega)) (.p (.ldP ty67 (.t rfl) (.h (.alloc ty67 fun b20 => .n (.stW ty67 (.t rfl) (.t rfl) .z ?_))))))
    refine .nil ?_
    refine .seq ?_
    refine .region rfl ?_
    refine .p (.ldW ty67 (.t rfl) .z (.p (.ldP ty67 (.t rfl) (.p (.call1 hG (rSameItem_c _ _) (.cons (.t rfl) (.cons (.t rfl) .nil)) (.p (.move (.t rfl) ?_)))))))
    refine .go 79 rfl (.t rfl) (fun hg80 => .ldW ty67 (.t rfl) .z rfl) ?_
    refine .go 79 rfl (.t rfl) (fun hg81 => .ldP ty67 (.t rfl) rfl) ?_
    refine .go 79 rfl (.t rfl) (fun hg82 => .call1 hG (rSameItem_c _ _) (.cons (.o rfl (beq_iff_eq.2 hg82)) (.cons (.o rfl (beq_iff_eq.2 hg82)) .nil)) rfl) ?_
    refine .p (.pickOr (.t rfl) (fun hp => (.o rfl (beq_iff_eq.2 hp))) (.p (.assign (.t rfl) ?_)))
    refine .nil ?_
    refine .seq ?_
    refine .region rfl ?_
    refine .p (.ldP ty32 (.t rfl) (.p (.ldP ty28 (.t rfl) (.p (.ldW ty67 (.t rfl) .z (.p (.call1 hG (itemCheckP_c _ _ _ (Nat.le_trans (hl _ (List.getElem_mem _)) (show 2000 ≤ 1000000 by decide))) (.cons (.t rfl) (.cons (.t rfl) (.cons (.t rfl) .nil))) (.p (.eqlI (.t rfl) (.i rfl) (.p (.move (.t rfl) ?_)))))))))))
    refine .p (.neqBl Tryd.underlying4 (.t rfl) (.t rfl) (.p (.move (.t rfl) ?_)))
    refine .go 91 rfl (.t rfl) (fun hg92 => .ldP ty28 (.t rfl) rfl) ?_
    refine .go 91 rfl (.t rfl) (fun hg93 => .ldP ty28 (.t rfl) rfl) ?_
    refine .go 91 rfl (.t rfl) (fun hg94 => .neqA8 Tryd.underlying28 sz5 Tryd.underlying5 gd28 (.o rfl (beq_iff_eq.2 hg94)) (.o rfl (beq_iff_eq.2 hg94)) rfl) ?_
    refine .goU 91 rfl (.t rfl) (fun hg95 => .move (.o rfl (beq_iff_eq.2 hg95)) rfl) ?_
    refine .gn 95 rfl rfl (fun hc96 hg96 => .ldP ty32 (.t rfl) rfl) ?_
    refine .gn 95 rfl rfl (fun hc97 hg97 => .ldP ty28 (.t rfl) rfl) ?_
    refine .gn 95 rfl rfl (fun hc98 hg98 => .ldW ty67 (.t rfl) .z rfl) ?_
    refine .gn 95 rfl rfl (fun hc99 hg99 => .call1 hG (itemCheckP_c _ _ _ (Nat.le_trans (hl _ (List.getElem_mem _)) (show 2000 ≤ 1000000 by decide))) (.cons (.ou rfl (Bool.and_eq_true_iff.2 ⟨hc99, beq_iff_eq.2 hg99⟩)) (.cons (.ou rfl (Bool.and_eq_true_iff.2 ⟨hc99, beq_iff_eq.2 hg99⟩)) (.cons (.ou rfl (Bool.and_eq_true_iff.2 ⟨hc99, beq_iff_eq.2 hg99⟩)) .nil))) rfl) ?_
    refine .gn 95 rfl rfl (fun hc100 hg100 => .eqlI (.ou rfl (Bool.and_eq_true_iff.2 ⟨hc100, beq_iff_eq.2 hg100⟩)) (.i rfl) rfl) ?_
    refine .go 91 rfl (.t rfl) (fun hg101 => .pickAnd (.ou rfl (beq_iff_eq.2 hg101)) (fun hp => (.ou rfl (Bool.and_eq_true_iff.2 ⟨(beq_iff_eq.2 hg101), beq_iff_eq.2 hp⟩))) rfl) ?_
    refine .p (.pickOr (.t rfl) (fun hp => (.o rfl (beq_iff_eq.2 hp))) ?_)
    refine .nil ?_
    refine .cond (.t rfl) (fun hc102 => (by exfalso; rw [ff_chk hchk, ff_chk hchk] at hc102; by_cases hk : key = k33 <;> simp [hk] at hc102)) (fun hc102 => ?_)
    refine .skip ?_
    refine .drop ?_
    refine .region rfl ?_
    refine .p (.add (.t rfl) (.i rfl) (by first | omega | (simp; done) | (simp; omega) | (simp at *; omega)) (by first | omega | (simp; done) | (simp; omega) | (simp at *; omega)) (.p (.move (.t rfl) ?_)))
    refine .nil ?_
    refine ⟨j + 1, .cons rfl (.cons rfl (.cons rfl (.cons rfl (.cons rfl (.cons rfl (.cons rfl (.cons rfl (.nil _)))))))), rfl, ?_, by simp at hc73; omega⟩
    simp at hc73; omega
  · refine .exit ?_
    refine .seq ?_
    refine .region rfl ?_
    refine .p (.call1 hG (awake24_c) .nil (.p (.assign (.t rfl) ?_)))
    refine .nil ?_
    refine .ret ?_
    refine ⟨_, .r1 rfl (.tmp rfl), ?_⟩
    rfl
end Go.Proofs.YtiekhjbhlekaeaaDoor
