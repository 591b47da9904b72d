/- Plain Lean over any program, and walks of this seat's functions: contracts, each proved once (part 4). -/
import Derived.Test.YtfkbejimghamkaaGreatDoorZ3
import Derived.ProofKit
import Derived.OpenShut
import Derived.ShutString
import Derived.ChangeOld
import Derived.Below
import Derived.LaidLaws
import Derived.Handed
import Derived.DataReads
import Derived.LaidSub
import Derived.Stop.LaidErr
import Derived.Lib.LaidTab
import Derived.Shelf.Vars
import Derived.SizedLaws
set_option linter.unusedSimpArgs false
set_option maxRecDepth 1000000
set_option linter.unusedVariables false
set_option linter.unusedSimpArgs false
namespace Go.Proofs.YtfkbejimghamkaaGreatDoor
open Go.Fl Go.Ab Go.Mac Go.Sha Go.Lib
def inR (n : Int) : Prop := -281474976710656 ≤ n ∧ n ≤ 281474976710656
theorem far_of {n : Int} (h : inR n) : farN n = false := by
  unfold farN
  rw [decide_eq_false (by unfold inR at h; omega), decide_eq_false (by unfold inR at h; omega)]; rfl
theorem num_all {s : Step} (hA : inR s.A) (hB : inR s.B) (hN : inR s.N) (h1 : inR s.Terms.Least) (h2 : inR s.Terms.Most) (h3 : inR s.Context.Zone) (h4 : inR s.Context.Line) : ∀ n ∈ valsS s, farN n = false := by
  intro n hn
  obtain ⟨f, _, rfl⟩ := List.mem_map.1 hn
  cases f
  · exact far_of hA
  · exact far_of hB
  · exact far_of hN
  · exact far_of h3
  · exact far_of h4
  · exact far_of h1
  · exact far_of h2
theorem line_ok {s : Step} (hk : 1 ≤ s.Kind ∧ s.Kind < 23) (h : StepOk s) : (lineF s).2 = 0 := by
  have hc : checkS s = 0 := by
    unfold checkS
    rw [if_neg (by rw [h.full]; decide), if_neg, if_neg, if_neg]
    · intro e
      simp only [Bool.and_eq_true, Bool.not_eq_true'] at e
      rw [h.name e.1] at e; cases e.2
    · intro e
      obtain ⟨p, hp, hq⟩ := List.any_eq_true.1 e
      rw [h.pred p hp] at hq; cases hq
    · intro e
      obtain ⟨f, hf, hq⟩ := List.any_eq_true.1 e
      rw [h.num _ (List.mem_map_of_mem hf)] at hq; cases hq
  unfold lineF
  rw [if_neg (by omega), if_neg (by rw [hc]; decide)]
structure StepD (s : Step) : Prop where
  line : (lineF s).2 = 0
  preds : s.Predicates.length ≤ 2
theorem zR : inR 0 := ⟨by decide, by decide⟩
theorem stepD_of {s : Step} {w : Value} {d' : G_macaroonmade_Deck} (hk : 1 ≤ s.Kind ∧ s.Kind < 23) (hd : DeckOk d') (hf : extraS s = false) (hA : inR s.A) (hB : inR s.B) (hN : inR s.N) (h1 : inR s.Terms.Least) (h2 : inR s.Terms.Most) (h3 : inR s.Context.Zone) (h4 : inR s.Context.Line) (hp : ∀ p ∈ s.Predicates, predOk p = true) (hl : (s.Predicates.length : Int) ≤ 2) (hn : khl s.Kind = true → isLabel ((hLens s).get s) = true) :
    ∃ s', StepD s' ∧ ∃ d'', DeckOk d'' ∧ AV.v s = AV.v s' ∧ [Blk.ob w d'] = [Blk.ob w d''] := ⟨s, ⟨line_ok hk ⟨hf, num_all hA hB hN h1 h2 h3 h4, hp, hn⟩, by omega⟩, d', hd, rfl, rfl⟩
set_option maxHeartbeats 4000000 in
theorem Step_deck_c (w : Value) (d : G_macaroonmade_Deck) (c : G_api_Config) (hd : DeckOk d) (hc : CfgOk c) : FunH gl Tryz.prog 31 [dk w, .v c] [.ob w d] (fun r Hs => ∃ s : Step, StepD s ∧ ∃ d', DeckOk d' ∧ r = .v s ∧ Hs = [.ob w d']) := by
  obtain ⟨⟨cg0, cg1⟩, ⟨cw0, cw1⟩⟩ := hc
  refine FunH.introS Tryz.func31 rfl (by kernel_rfl) 202 rfl rfl _ rfl _ rfl fun C hC hG => ?_
  refine .seq ?_
  refine .region rfl ?_
  refine .h (.box (.t rfl) fun b3 => .h (.alloc ty30 fun b4 => ?_))
  refine .nil ?_
  refine .seq ?_
  refine .region rfl ?_
  refine .p (.move (.t rfl) (.h (.callM hG (Range_e _ _ _ _ (by first | assumption | exact deckNew_ok _) (by first | omega | (simp; done) | (simp; omega) | (simp at *; omega)) (by first | omega | (simp; done) | (simp; omega) | (simp at *; omega)) (by first | omega | (simp; done) | (simp; omega) | (simp at *; omega))) (.s (.s .z)) (.cons (.t rfl) (.cons (.i rfl) (.cons (.i rfl) .nil))) (by rintro _ _ ⟨_, _, _, _, _, _, rfl⟩; exact ⟨_, rfl⟩) fun r10 B10 hr10 => ?_)))
  obtain ⟨v10, d10, h010, h110, hd10, rfl, hB⟩ := hr10
  cases hB
  refine .p (.bS1 G_api_Step.l0 rfl ty30 fo30 (fun c0 => (⟨c0, 0, 0, 0, [], default, ⟨[]⟩, default⟩ : G_api_Step)) (fun _ => rfl) rfl rfl (.t rfl) (.h (.alloc ty30 fun b5 => .n (.stW ty30 (.t rfl) (.t rfl) .z ?_))))
  refine .nil ?_
  refine .seq ?_
  refine .seq ?_
  refine .region rfl ?_
  refine .p (.move (.t rfl) (.h (.callM hG (Next_e _ _ _ (by first | assumption | exact deckNew_ok _) (by first | omega | (simp; done) | (simp; omega) | (simp at *; omega)) (by first | omega | (simp; done) | (simp; omega) | (simp at *; omega))) (.s (.s (.s .z))) (.cons (.t rfl) (.cons (.i rfl) .nil)) (by rintro _ _ ⟨_, _, _, _, _, _, rfl⟩; exact ⟨_, rfl⟩) fun r13 B13 hr13 => ?_)))
  obtain ⟨v13, d13, h013, h113, hd13, rfl, hB⟩ := hr13
  cases hB
  refine .p (.eqlI (.t rfl) (.i rfl) ?_)
  refine .nil ?_
  refine .condP (.t rfl) (fun hc14 => ?_) (fun hc14 => ?_)
  · refine .region rfl ?_
    refine .h (.buildSlice (α := Int) ty3 Tryz.underlying23 (.cons (.i rfl) (.cons (.i rfl) (.cons (.i rfl) (.cons (.i rfl) (.cons (.i rfl) .nil))))) rfl (by decide) fun b15 => .p (.move (.t rfl) (.h (.callM hG (Next_e _ _ _ (by first | assumption | exact deckNew_ok _) (by first | omega | (simp; done) | (simp; omega) | (simp at *; omega)) (by first | omega | (simp; done) | (simp; omega) | (simp at *; omega))) (.s (.s (.s (.s .z)))) (.cons (.t rfl) (.cons (.i rfl) .nil)) (by rintro _ _ ⟨_, _, _, _, _, _, rfl⟩; exact ⟨_, rfl⟩) fun r17 B17 hr17 => ?_))))
    obtain ⟨v17, d17, h017, h117, hd17, rfl, hB⟩ := hr17
    cases hB
    refine .p (.idxOwn ty3 Tryz.underlying23 rfl .z (.t rfl) (by first | omega | (simp; done) | (simp; omega) | (simp at *; omega)) (by first | omega | (simp; done) | (simp; omega) | (simp at *; omega)) (.p (.ldEW ty3 (.t rfl) .z (by first | omega | (simp; done) | (simp; omega) | (simp at *; omega)) (.p (.fldW G_api_Step.l0 fd30_0 rfl (.t rfl) (.n (.stF (fun y x => { x with Kind := y }) ty3 (.t rfl) (.t rfl) (.s .z) (fun _ _ => rfl) ?_)))))))
    have hkm := (by decide : ∀ x ∈ ([11, 10, 12, 5, 3] : List Int), 1 ≤ x ∧ x < 23) ([11, 10, 12, 5, 3][v17.toNat]'(show _ < 5 by omega)) (List.getElem_mem _)
    generalize ([11, 10, 12, 5, 3] : List Int)[v17.toNat]'(show _ < 5 by omega) = kk at hkm ⊢
    refine .nil ?_
    refine .seq ?_
    refine .region rfl ?_
    refine .p (.move (.t rfl) (.h (.callM hG (Next_e _ _ _ (by first | assumption | exact deckNew_ok _) (by first | omega | (simp; done) | (simp; omega) | (simp at *; omega)) (by first | omega | (simp; done) | (simp; omega) | (simp at *; omega))) (.s (.s (.s (.s .z)))) (.cons (.t rfl) (.cons (.i rfl) .nil)) (by rintro _ _ ⟨_, _, _, _, _, _, rfl⟩; exact ⟨_, rfl⟩) fun r22 B22 hr22 => ?_)))
    obtain ⟨v22, d22, h022, h122, hd22, rfl, hB⟩ := hr22
    cases hB
    refine .p (.move (.t rfl) (.h (.callM hG (Next_e _ _ _ (by first | assumption | exact deckNew_ok _) (by first | omega | (simp; done) | (simp; omega) | (simp at *; omega)) (by first | omega | (simp; done) | (simp; omega) | (simp at *; omega))) (.s (.s (.s (.s .z)))) (.cons (.t rfl) (.cons (.i rfl) .nil)) (by rintro _ _ ⟨_, _, _, _, _, _, rfl⟩; exact ⟨_, rfl⟩) fun r24 B24 hr24 => ?_)))
    obtain ⟨v24, d24, h024, h124, hd24, rfl, hB⟩ := hr24
    cases hB
    refine .p (.bS3 G_api_Context.l0 G_api_Context.l1 G_api_Context.l3 rfl ty28 fo28 (fun c0 c1 c3 => (⟨c0, c1, 0, c3⟩ : G_api_Context)) (fun _ _ _ => rfl) rfl rfl rfl rfl (.t rfl) (.t rfl) (.s [97, 110, 110] (by decide) (by decide)) (.h (.alloc ty28 fun b6 => .n (.stW ty28 (.t rfl) (.t rfl) .z ?_))))
    refine .nil ?_
    refine .seq ?_
    refine .drawCF [false, false, false, false, false, true] (by kernel_rfl) 10 [[], [], [(27, 1)], [(26, 0), (28, 2)], [], [], [(31, 5)], [(30, 4), (32, 6)], [(29, 3)], [(33, 7)]] [3, 7, 8, 9] rfl (by kernel_rfl) rfl (by kernel_rfl) (by decide) ?_
    refine ⟨_, fun H => OpP.move (.t rfl) rfl, ?_⟩
    refine ⟨_, fun H => OpP.fldW G_api_Config.l2 fd56_2 rfl (.t rfl) rfl, ?_⟩
    refine ⟨_, fun H => OpP.ldF (fun x => x.Gates) ty3 (.t rfl) (Hole.app (.s (.s (.s (.s .z))))) (fun _ => rfl) rfl, ?_⟩
    refine .inl ?_
    refine ⟨_, fun H => OpP.move (.t rfl) rfl, ?_⟩
    refine ⟨_, fun H => OpP.fldW G_api_Config.l3 fd56_3 rfl (.t rfl) rfl, ?_⟩
    refine ⟨_, fun H => OpP.ldF (fun x => x.Wallets) ty3 (.t rfl) (Hole.app (.s (.s (.s (.s .z))))) (fun _ => rfl) rfl, ?_⟩
    refine .inl ?_
    refine .inl ?_
    refine .inl ?_
    refine ⟨⟨([], fun k => List.getD [(true, .none_), (true, .none_), (true, .none_), (true, .none_), (true, .none_), _] k (true, .none_)), rfl⟩, ?_⟩
    refine OpH.callM hG (Next_e _ _ _ (by first | assumption | exact deckNew_ok _) (by first | omega | (simp; done) | (simp; omega) | (simp at *; omega)) (by first | omega | (simp; done) | (simp; omega) | (simp at *; omega))) (.s (.s (.s (.s (.s .z))))) (.cons (.t rfl) (.cons (.t rfl) .nil)) (by rintro _ _ ⟨_, _, _, _, _, _, rfl⟩; exact ⟨_, rfl⟩) fun r29 B29 hr29 => ?_
    obtain ⟨v29, d29, h029, h129, hd29, rfl, hB⟩ := hr29
    cases hB
    refine ⟨⟨([], fun k => List.getD [(true, .none_), (true, .none_), (true, .none_), (true, .none_), (true, .none_), _] k (true, .none_)), rfl⟩, ?_⟩
    refine OpH.callM hG (Next_e _ _ _ (by first | assumption | exact deckNew_ok _) (by first | omega | (simp; done) | (simp; omega) | (simp at *; omega)) (by first | omega | (simp; done) | (simp; omega) | (simp at *; omega))) (.s (.s (.s (.s (.s .z))))) (.cons (.t rfl) (.cons (.t rfl) .nil)) (by rintro _ _ ⟨_, _, _, _, _, _, rfl⟩; exact ⟨_, rfl⟩) fun r33 B33 hr33 => ?_
    obtain ⟨v33, d33, h033, h133, hd33, rfl, hB⟩ := hr33
    cases hB
    refine ⟨⟨([], fun k => List.getD [(true, .none_), (true, .none_), (true, .none_), (true, .none_), (true, .none_), _] k (true, .none_)), rfl⟩, ?_⟩
    refine OpH.ofP (OpP.assign (.t rfl) ?_)
    refine ⟨⟨([], fun k => List.getD [(true, .none_), (true, .none_), (true, .none_), (true, .none_), (true, .none_), _] k (true, .none_)), rfl⟩, ?_⟩
    refine OpH.ofP (OpP.assign (.t rfl) ?_)
    refine ⟨⟨([], fun k => List.getD [(true, .none_), (true, .none_), (true, .none_), (true, .none_), (true, .none_), _] k (true, .none_)), rfl⟩, ?_⟩
    show wpB _ _ _ _ _ _ ((8, _) :: (7, _) :: (33, _) :: (32, _) :: (31, _) :: (30, _) :: (29, _) :: (28, _) :: (27, _) :: (26, _) :: _) _
    refine .nil ?_
    refine .seq ?_
    refine .seq ?_
    refine .region rfl ?_
    refine .p (.fldW G_api_Step.l0 fd30_0 rfl (.t rfl) (.p (.ldF (fun x => x.Kind) ty3 (.t rfl) (.s (.s .z)) (fun _ => rfl) ?_)))
    refine .nil ?_
    refine .block ?_
    refine .seq ?_
    refine .region rfl ?_
    refine .p (.eqlI (.t rfl) (.i rfl) (.p (.assign (.t rfl) ?_)))
    refine .nil ?_
    refine .condP (.t rfl) (fun hc36 => ?_) (fun hc36 => ?_)
    · refine .region rfl ?_
      refine .p (.move (.t rfl) (.h (.callM hG (Range_e _ _ _ _ (by first | assumption | exact deckNew_ok _) (by first | omega | (simp; done) | (simp; omega) | (simp at *; omega)) (by first | omega | (simp; done) | (simp; omega) | (simp at *; omega)) (by first | omega | (simp; done) | (simp; omega) | (simp at *; omega))) (.s (.s (.s (.s (.s .z))))) (.cons (.t rfl) (.cons (.i rfl) (.cons (.i rfl) .nil))) (by rintro _ _ ⟨_, _, _, _, _, _, rfl⟩; exact ⟨_, rfl⟩) fun r39 B39 hr39 => ?_)))
      obtain ⟨v39, d39, h039, h139, hd39, rfl, hB⟩ := hr39
      cases hB
      refine .p (.fldW G_api_Step.l3 fd30_3 rfl (.t rfl) (.n (.stF (fun y x => { x with N := y }) ty3 (.t rfl) (.t rfl) (.s (.s .z)) (fun _ _ => rfl) ?_)))
      refine .nil ?_
      refine .seq ?_
      refine .region rfl ?_
      refine .p (.ldW ty30 (.t rfl) (.s (.s .z)) (.n (.stW ty30 (.t rfl) (.t rfl) (.s (.s (.s .z))) ?_)))
      refine .nil ?_
      refine .ret ?_
      refine ⟨_, .r1 rfl (.cell ty30 rfl (.s (.s (.s .z)))), ?_⟩
      refine ⟨_, .cons (.s (.s (.s (.s (.s .z))))) (.nil), ?_⟩
      dsimp only at *
      first | (have hh : kk = 2 := (by omega); subst hh) | (have hh : kk = 3 := (by omega); subst hh) | (have hh : kk = 4 := (by omega); subst hh) | (have hh : kk = 5 := (by omega); subst hh) | (have hh : kk = 6 := (by omega); subst hh) | (have hh : kk = 7 := (by omega); subst hh) | (have hh : kk = 8 := (by omega); subst hh) | (have hh : kk = 9 := (by omega); subst hh) | (have hh : kk = 10 := (by omega); subst hh) | (have hh : kk = 11 := (by omega); subst hh) | (have hh : kk = 12 := (by omega); subst hh) | (have hh : kk = 13 := (by omega); subst hh) | (have hh : kk = 14 := (by omega); subst hh) | (have hh : kk = 15 := (by omega); subst hh) | (have hh : kk = 16 := (by omega); subst hh) | (have hh : kk = 17 := (by omega); subst hh) | (have hh : kk = 18 := (by omega); subst hh) | (have hh : kk = 19 := (by omega); subst hh) | (have hh : kk = 20 := (by omega); subst hh) | (have hh : kk = 21 := (by omega); subst hh) | (have hh : kk = 22 := (by omega); subst hh) | (have hh : kk = 1 := (by omega); subst hh) | (exfalso; omega)
      exact stepD_of ⟨by dsimp only; omega, by dsimp only; omega⟩ (by assumption) rfl (by first | exact zR | exact ⟨by dsimp only; omega, by dsimp only; omega⟩) (by first | exact zR | exact ⟨by dsimp only; omega, by dsimp only; omega⟩) (by first | exact zR | exact ⟨by dsimp only; omega, by dsimp only; omega⟩) (by first | exact zR | exact ⟨by dsimp only; omega, by dsimp only; omega⟩) (by first | exact zR | exact ⟨by dsimp only; omega, by dsimp only; omega⟩) (by first | exact zR | exact ⟨by dsimp only; omega, by dsimp only; omega⟩) (by first | exact zR | exact ⟨by dsimp only; omega, by dsimp only; omega⟩) (by first | assumption | (intro p hp; cases hp)) (by first | assumption | (dsimp only; omega) | (show ((0 : Nat) : Int) ≤ 2; decide)) (fun h => by first | exact Bool.noConfusion (show false = true from h) | rfl | exact (by decide : ∀ x ∈ ([⟨[97, 110, 110]⟩, ⟨[98, 111, 98]⟩, ⟨[100, 97, 110]⟩] : List Str), isLabel x = true) _ (List.getElem_mem _))
    · refine .seq ?_
      refine .region rfl ?_
      refine .p (.eqlI (.t rfl) (.i rfl) (.p (.assign (.t rfl) ?_)))
      refine .nil ?_
      refine .condP (.t rfl) (fun hc41 => ?_) (fun hc41 => ?_)
      · refine .region rfl ?_
        refine .p (.move (.t rfl) (.p (.move (.t rfl) (.h (.callM hG (Wide_deck_c _ _ _ _ (by assumption) (by decide) (by decide) (by decide)) (.s (.s (.s (.s (.s .z))))) (.cons (.t rfl) (.cons (.i rfl) (.cons (.s [97, 110, 110] (by decide) (by decide)) .nil))) (by rintro _ _ ⟨_, _, _, _, _, _, rfl⟩; exact ⟨_, rfl⟩) fun r45 B45 hr45 => ?_)))))
        obtain ⟨l45, hl45, hp45, d45, hd45, rfl, hB⟩ := hr45
        cases hB
        refine .p (.fldW G_api_Step.l1 fd30_1 rfl (.t rfl) (.n (.stF (fun y x => { x with A := y }) ty3 (.t rfl) (.t rfl) (.s (.s .z)) (fun _ _ => rfl) (.p (.fldW G_api_Step.l4 fd30_4 rfl (.t rfl) (.n (.stF (fun y x => { x with Predicates := y }) ty24 (.t rfl) (.t rfl) (.s (.s .z)) (fun _ _ => rfl) ?_)))))))
        refine .nil ?_
        refine .seq ?_
        refine .region rfl ?_
        refine .p (.ldW ty30 (.t rfl) (.s (.s .z)) (.n (.stW ty30 (.t rfl) (.t rfl) (.s (.s (.s .z))) ?_)))
        refine .nil ?_
        refine .ret ?_
        refine ⟨_, .r1 rfl (.cell ty30 rfl (.s (.s (.s .z)))), ?_⟩
        refine ⟨_, .cons (.s (.s (.s (.s (.s .z))))) (.nil), ?_⟩
        dsimp only at *
        first | (have hh : kk = 2 := (by omega); subst hh) | (have hh : kk = 3 := (by omega); subst hh) | (have hh : kk = 4 := (by omega); subst hh) | (have hh : kk = 5 := (by omega); subst hh) | (have hh : kk = 6 := (by omega); subst hh) | (have hh : kk = 7 := (by omega); subst hh) | (have hh : kk = 8 := (by omega); subst hh) | (have hh : kk = 9 := (by omega); subst hh) | (have hh : kk = 10 := (by omega); subst hh) | (have hh : kk = 11 := (by omega); subst hh) | (have hh : kk = 12 := (by omega); subst hh) | (have hh : kk = 13 := (by omega); subst hh) | (have hh : kk = 14 := (by omega); subst hh) | (have hh : kk = 15 := (by omega); subst hh) | (have hh : kk = 16 := (by omega); subst hh) | (have hh : kk = 17 := (by omega); subst hh) | (have hh : kk = 18 := (by omega); subst hh) | (have hh : kk = 19 := (by omega); subst hh) | (have hh : kk = 20 := (by omega); subst hh) | (have hh : kk = 21 := (by omega); subst hh) | (have hh : kk = 22 := (by omega); subst hh) | (have hh : kk = 1 := (by omega); subst hh) | (exfalso; omega)
        exact stepD_of ⟨by dsimp only; omega, by dsimp only; omega⟩ (by assumption) rfl (by first | exact zR | exact ⟨by dsimp only; omega, by dsimp only; omega⟩) (by first | exact zR | exact ⟨by dsimp only; omega, by dsimp only; omega⟩) (by first | exact zR | exact ⟨by dsimp only; omega, by dsimp only; omega⟩) (by first | exact zR | exact ⟨by dsimp only; omega, by dsimp only; omega⟩) (by first | exact zR | exact ⟨by dsimp only; omega, by dsimp only; omega⟩) (by first | exact zR | exact ⟨by dsimp only; omega, by dsimp only; omega⟩) (by first | exact zR | exact ⟨by dsimp only; omega, by dsimp only; omega⟩) (by first | assumption | (intro p hp; cases hp)) (by first | assumption | (dsimp only; omega) | (show ((0 : Nat) : Int) ≤ 2; decide)) (fun h => by first | exact Bool.noConfusion (show false = true from h) | rfl | exact (by decide : ∀ x ∈ ([⟨[97, 110, 110]⟩, ⟨[98, 111, 98]⟩, ⟨[100, 97, 110]⟩] : List Str), isLabel x = true) _ (List.getElem_mem _))
      · refine .seq ?_
        refine .region rfl ?_
        refine .p (.eqlI (.t rfl) (.i rfl) (.p (.assign (.t rfl) ?_)))
        refine .nil ?_
        refine .condP (.t rfl) (fun hc48 => ?_) (fun hc48 => ?_)
        · refine .region rfl ?_
          refine .p (.move (.t rfl) (.p (.move (.t rfl) (.h (.callM hG (Next_e _ _ _ (by first | assumption | exact deckNew_ok _) (by first | omega | (simp; done) | (simp; omega) | (simp at *; omega)) (by first | omega | (simp; done) | (simp; omega) | (simp at *; omega))) (.s (.s (.s (.s (.s .z))))) (.cons (.t rfl) (.cons (.i rfl) .nil)) (by rintro _ _ ⟨_, _, _, _, _, _, rfl⟩; exact ⟨_, rfl⟩) fun r52 B52 hr52 => ?_)))))
          obtain ⟨v52, d52, h052, h152, hd52, rfl, hB⟩ := hr52
          cases hB
          refine .p (.move (.t rfl) (.h (.callM hG (Next_e _ _ _ (by first | assumption | exact deckNew_ok _) (by first | omega | (simp; done) | (simp; omega) | (simp at *; omega)) (by first | omega | (simp; done) | (simp; omega) | (simp at *; omega))) (.s (.s (.s (.s (.s .z))))) (.cons (.t rfl) (.cons (.i rfl) .nil)) (by rintro _ _ ⟨_, _, _, _, _, _, rfl⟩; exact ⟨_, rfl⟩) fun r54 B54 hr54 => ?_)))
          obtain ⟨v54, d54, h054, h154, hd54, rfl, hB⟩ := hr54
          cases hB
          refine .p (.fldW G_api_Step.l1 fd30_1 rfl (.t rfl) (.n (.stF (fun y x => { x with A := y }) ty3 (.t rfl) (.t rfl) (.s (.s .z)) (fun _ _ => rfl) (.p (.fldW G_api_Step.l2 fd30_2 rfl (.t rfl) (.n (.stF (fun y x => { x with B := y }) ty3 (.t rfl) (.t rfl) (.s (.s .z)) (fun _ _ => rfl) (.p (.fldW G_api_Step.l3 fd30_3 rfl (.t rfl) (.n (.stF (fun y x => { x with N := y }) ty3 (.t rfl) (.t rfl) (.s (.s .z)) (fun _ _ => rfl) ?_)))))))))))
          refine .nil ?_
          refine .seq ?_
          refine .region rfl ?_
          refine .p (.ldW ty30 (.t rfl) (.s (.s .z)) (.n (.stW ty30 (.t rfl) (.t rfl) (.s (.s (.s .z))) ?_)))
          refine .nil ?_
          refine .ret ?_
          refine ⟨_, .r1 rfl (.cell ty30 rfl (.s (.s (.s .z)))), ?_⟩
          refine ⟨_, .cons (.s (.s (.s (.s (.s .z))))) (.nil), ?_⟩
          dsimp only at *
          first | (have hh : kk = 2 := (by omega); subst hh) | (have hh : kk = 3 := (by omega); subst hh) | (have hh : kk = 4 := (by omega); subst hh) | (have hh : kk = 5 := (by omega); subst hh) | (have hh : kk = 6 := (by omega); subst hh) | (have hh : kk = 7 := (by omega); subst hh) | (have hh : kk = 8 := (by omega); subst hh) | (have hh : kk = 9 := (by omega); subst hh) | (have hh : kk = 10 := (by omega); subst hh) | (have hh : kk = 11 := (by omega); subst hh) | (have hh : kk = 12 := (by omega); subst hh) | (have hh : kk = 13 := (by omega); subst hh) | (have hh : kk = 14 := (by omega); subst hh) | (have hh : kk = 15 := (by omega); subst hh) | (have hh : kk = 16 := (by omega); subst hh) | (have hh : kk = 17 := (by omega); subst hh) | (have hh : kk = 18 := (by omega); subst hh) | (have hh : kk = 19 := (by omega); subst hh) | (have hh : kk = 20 := (by omega); subst hh) | (have hh : kk = 21 := (by omega); subst hh) | (have hh : kk = 22 := (by omega); subst hh) | (have hh : kk = 1 := (by omega); subst hh) | (exfalso; omega)
          exact stepD_of ⟨by dsimp only; omega, by dsimp only; omega⟩ (by assumption) rfl (by first | exact zR | exact ⟨by dsimp only; omega, by dsimp only; omega⟩) (by first | exact zR | exact ⟨by dsimp only; omega, by dsimp only; omega⟩) (by first | exact zR | exact ⟨by dsimp only; omega, by dsimp only; omega⟩) (by first | exact zR | exact ⟨by dsimp only; omega, by dsimp only; omega⟩) (by first | exact zR | exact ⟨by dsimp only; omega, by dsimp only; omega⟩) (by first | exact zR | exact ⟨by dsimp only; omega, by dsimp only; omega⟩) (by first | exact zR | exact ⟨by dsimp only; omega, by dsimp only; omega⟩) (by first | assumption | (intro p hp; cases hp)) (by first | assumption | (dsimp only; omega) | (show ((0 : Nat) : Int) ≤ 2; decide)) (fun h => by first | exact Bool.noConfusion (show false = true from h) | rfl | exact (by decide : ∀ x ∈ ([⟨[97, 110, 110]⟩, ⟨[98, 111, 98]⟩, ⟨[100, 97, 110]⟩] : List Str), isLabel x = true) _ (List.getElem_mem _))
        · refine .seq ?_
          refine .region rfl ?_
          refine .p (.eqlI (.t rfl) (.i rfl) (.p (.assign (.t rfl) ?_)))
          refine .nil ?_
          refine .condP (.t rfl) (fun hc58 => ?_) (fun hc58 => ?_)
          · refine .region rfl ?_
            refine .p (.move (.t rfl) (.p (.move (.t rfl) (.h (.callM hG (Range_e _ _ _ _ (by first | assumption | exact deckNew_ok _) (by first | omega | (simp; done) | (simp; omega) | (simp at *; omega)) (by first | omega | (simp; done) | (simp; omega) | (simp at *; omega)) (by first | omega | (simp; done) | (simp; omega) | (simp at *; omega))) (.s (.s (.s (.s (.s .z))))) (.cons (.t rfl) (.cons (.i rfl) (.cons (.i rfl) .nil))) (by rintro _ _ ⟨_, _, _, _, _, _, rfl⟩; exact ⟨_, rfl⟩) fun r62 B62 hr62 => ?_)))))
            obtain ⟨v62, d62, h062, h162, hd62, rfl, hB⟩ := hr62
            cases hB
            refine .p (.fldW G_api_Step.l1 fd30_1 rfl (.t rfl) (.n (.stF (fun y x => { x with A := y }) ty3 (.t rfl) (.t rfl) (.s (.s .z)) (fun _ _ => rfl) (.p (.fldW G_api_Step.l3 fd30_3 rfl (.t rfl) (.n (.stF (fun y x => { x with N := y }) ty3 (.t rfl) (.t rfl) (.s (.s .z)) (fun _ _ => rfl) ?_)))))))
            refine .nil ?_
            refine .seq ?_
            refine .region rfl ?_
            refine .p (.ldW ty30 (.t rfl) (.s (.s .z)) (.n (.stW ty30 (.t rfl) (.t rfl) (.s (.s (.s .z))) ?_)))
            refine .nil ?_
            refine .ret ?_
            refine ⟨_, .r1 rfl (.cell ty30 rfl (.s (.s (.s .z)))), ?_⟩
            refine ⟨_, .cons (.s (.s (.s (.s (.s .z))))) (.nil), ?_⟩
            dsimp only at *
            first | (have hh : kk = 2 := (by omega); subst hh) | (have hh : kk = 3 := (by omega); subst hh) | (have hh : kk = 4 := (by omega); subst hh) | (have hh : kk = 5 := (by omega); subst hh) | (have hh : kk = 6 := (by omega); subst hh) | (have hh : kk = 7 := (by omega); subst hh) | (have hh : kk = 8 := (by omega); subst hh) | (have hh : kk = 9 := (by omega); subst hh) | (have hh : kk = 10 := (by omega); subst hh) | (have hh : kk = 11 := (by omega); subst hh) | (have hh : kk = 12 := (by omega); subst hh) | (have hh : kk = 13 := (by omega); subst hh) | (have hh : kk = 14 := (by omega); subst hh) | (have hh : kk = 15 := (by omega); subst hh) | (have hh : kk = 16 := (by omega); subst hh) | (have hh : kk = 17 := (by omega); subst hh) | (have hh : kk = 18 := (by omega); subst hh) | (have hh : kk = 19 := (by omega); subst hh) | (have hh : kk = 20 := (by omega); subst hh) | (have hh : kk = 21 := (by omega); subst hh) | (have hh : kk = 22 := (by omega); subst hh) | (have hh : kk = 1 := (by omega); subst hh) | (exfalso; omega)
            exact stepD_of ⟨by dsimp only; omega, by dsimp only; omega⟩ (by assumption) rfl (by first | exact zR | exact ⟨by dsimp only; omega, by dsimp only; omega⟩) (by first | exact zR | exact ⟨by dsimp only; omega, by dsimp only; omega⟩) (by first | exact zR | exact ⟨by dsimp only; omega, by dsimp only; omega⟩) (by first | exact zR | exact ⟨by dsimp only; omega, by dsimp only; omega⟩) (by first | exact zR | exact ⟨by dsimp only; omega, by dsimp only; omega⟩) (by first | exact zR | exact ⟨by dsimp only; omega, by dsimp only; omega⟩) (by first | exact zR | exact ⟨by dsimp only; omega, by dsimp only; omega⟩) (by first | assumption | (intro p hp; cases hp)) (by first | assumption | (dsimp only; omega) | (show ((0 : Nat) : Int) ≤ 2; decide)) (fun h => by first | exact Bool.noConfusion (show false = true from h) | rfl | exact (by decide : ∀ x ∈ ([⟨[97, 110, 110]⟩, ⟨[98, 111, 98]⟩, ⟨[100, 97, 110]⟩] : List Str), isLabel x = true) _ (List.getElem_mem _))
          · refine .seq ?_
            refine .region rfl ?_
            refine .p (.eqlI (.t rfl) (.i rfl) (.p (.assign (.t rfl) ?_)))
            refine .nil ?_
            refine .condP (.t rfl) (fun hc65 => ?_) (fun hc65 => ?_)
            · refine .region rfl ?_
              refine .p (.move (.t rfl) (.p (.move (.t rfl) (.h (.callM hG (Next_e _ _ _ (by first | assumption | exact deckNew_ok _) (by first | omega | (simp; done) | (simp; omega) | (simp at *; omega)) (by first | omega | (simp; done) | (simp; omega) | (simp at *; omega))) (.s (.s (.s (.s (.s .z))))) (.cons (.t rfl) (.cons (.i rfl) .nil)) (by rintro _ _ ⟨_, _, _, _, _, _, rfl⟩; exact ⟨_, rfl⟩) fun r69 B69 hr69 => ?_)))))
              obtain ⟨v69, d69, h069, h169, hd69, rfl, hB⟩ := hr69
              cases hB
              refine .p (.move (.t rfl) (.h (.callM hG (Wide_deck_c _ _ _ _ (by assumption) (by decide) (by decide) (by decide)) (.s (.s (.s (.s (.s .z))))) (.cons (.t rfl) (.cons (.i rfl) (.cons (.s [97, 110, 110] (by decide) (by decide)) .nil))) (by rintro _ _ ⟨_, _, _, _, _, _, rfl⟩; exact ⟨_, rfl⟩) fun r71 B71 hr71 => ?_)))
              obtain ⟨l71, hl71, hp71, d71, hd71, rfl, hB⟩ := hr71
              cases hB
              refine .p (.fldW G_api_Step.l1 fd30_1 rfl (.t rfl) (.n (.stF (fun y x => { x with A := y }) ty3 (.t rfl) (.t rfl) (.s (.s .z)) (fun _ _ => rfl) (.p (.fldW G_api_Step.l2 fd30_2 rfl (.t rfl) (.n (.stF (fun y x => { x with B := y }) ty3 (.t rfl) (.t rfl) (.s (.s .z)) (fun _ _ => rfl) (.p (.fldW G_api_Step.l4 fd30_4 rfl (.t rfl) (.n (.stF (fun y x => { x with Predicates := y }) ty24 (.t rfl) (.t rfl) (.s (.s .z)) (fun _ _ => rfl) ?_)))))))))))
              refine .nil ?_
              refine .seq ?_
              refine .region rfl ?_
              refine .p (.ldW ty30 (.t rfl) (.s (.s .z)) (.n (.stW ty30 (.t rfl) (.t rfl) (.s (.s (.s .z))) ?_)))
              refine .nil ?_
              refine .ret ?_
              refine ⟨_, .r1 rfl (.cell ty30 rfl (.s (.s (.s .z)))), ?_⟩
              refine ⟨_, .cons (.s (.s (.s (.s (.s .z))))) (.nil), ?_⟩
              dsimp only at *
              first | (have hh : kk = 2 := (by omega); subst hh) | (have hh : kk = 3 := (by omega); subst hh) | (have hh : kk = 4 := (by omega); subst hh) | (have hh : kk = 5 := (by omega); subst hh) | (have hh : kk = 6 := (by omega); subst hh) | (have hh : kk = 7 := (by omega); subst hh) | (have hh : kk = 8 := (by omega); subst hh) | (have hh : kk = 9 := (by omega); subst hh) | (have hh : kk = 10 := (by omega); subst hh) | (have hh : kk = 11 := (by omega); subst hh) | (have hh : kk = 12 := (by omega); subst hh) | (have hh : kk = 13 := (by omega); subst hh) | (have hh : kk = 14 := (by omega); subst hh) | (have hh : kk = 15 := (by omega); subst hh) | (have hh : kk = 16 := (by omega); subst hh) | (have hh : kk = 17 := (by omega); subst hh) | (have hh : kk = 18 := (by omega); subst hh) | (have hh : kk = 19 := (by omega); subst hh) | (have hh : kk = 20 := (by omega); subst hh) | (have hh : kk = 21 := (by omega); subst hh) | (have hh : kk = 22 := (by omega); subst hh) | (have hh : kk = 1 := (by omega); subst hh) | (exfalso; omega)
              exact stepD_of ⟨by dsimp only; omega, by dsimp only; omega⟩ (by assumption) rfl (by first | exact zR | exact ⟨by dsimp only; omega, by dsimp only; omega⟩) (by first | exact zR | exact ⟨by dsimp only; omega, by dsimp only; omega⟩) (by first | exact zR | exact ⟨by dsimp only; omega, by dsimp only; omega⟩) (by first | exact zR | exact ⟨by dsimp only; omega, by dsimp only; omega⟩) (by first | exact zR | exact ⟨by dsimp only; omega, by dsimp only; omega⟩) (by first | exact zR | exact ⟨by dsimp only; omega, by dsimp only; omega⟩) (by first | exact zR | exact ⟨by dsimp only; omega, by dsimp only; omega⟩) (by first | assumption | (intro p hp; cases hp)) (by first | assumption | (dsimp only; omega) | (show ((0 : Nat) : Int) ≤ 2; decide)) (fun h => by first | exact Bool.noConfusion (show false = true from h) | rfl | exact (by decide : ∀ x ∈ ([⟨[97, 110, 110]⟩, ⟨[98, 111, 98]⟩, ⟨[100, 97, 110]⟩] : List Str), isLabel x = true) _ (List.getElem_mem _))
            · refine .seq ?_
              refine .region rfl ?_
              refine .p (.eqlI (.t rfl) (.i rfl) (.p (.assign (.t rfl) ?_)))
              refine .nil ?_
              refine .condP (.t rfl) (fun hc75 => ?_) (fun hc75 => ?_)
              · refine .region rfl ?_
                refine .p (.move (.t rfl) (.p (.move (.t rfl) (.h (.callM hG (Next_e _ _ _ (by first | assumption | exact deckNew_ok _) (by first | omega | (simp; done) | (simp; omega) | (simp at *; omega)) (by first | omega | (simp; done) | (simp; omega) | (simp at *; omega))) (.s (.s (.s (.s (.s .z))))) (.cons (.t rfl) (.cons (.i rfl) .nil)) (by rintro _ _ ⟨_, _, _, _, _, _, rfl⟩; exact ⟨_, rfl⟩) fun r79 B79 hr79 => ?_)))))
                obtain ⟨v79, d79, h079, h179, hd79, rfl, hB⟩ := hr79
                cases hB
                refine .p (.move (.t rfl) (.h (.callM hG (Next_e _ _ _ (by first | assumption | exact deckNew_ok _) (by first | omega | (simp; done) | (simp; omega) | (simp at *; omega)) (by first | omega | (simp; done) | (simp; omega) | (simp at *; omega))) (.s (.s (.s (.s (.s .z))))) (.cons (.t rfl) (.cons (.i rfl) .nil)) (by rintro _ _ ⟨_, _, _, _, _, _, rfl⟩; exact ⟨_, rfl⟩) fun r81 B81 hr81 => ?_)))
                obtain ⟨v81, d81, h081, h181, hd81, rfl, hB⟩ := hr81
                cases hB
                refine .p (.move (.t rfl) (.h (.callM hG (Next_e _ _ _ (by first | assumption | exact deckNew_ok _) (by first | omega | (simp; done) | (simp; omega) | (simp at *; omega)) (by first | omega | (simp; done) | (simp; omega) | (simp at *; omega))) (.s (.s (.s (.s (.s .z))))) (.cons (.t rfl) (.cons (.i rfl) .nil)) (by rintro _ _ ⟨_, _, _, _, _, _, rfl⟩; exact ⟨_, rfl⟩) fun r83 B83 hr83 => ?_)))
                obtain ⟨v83, d83, h083, h183, hd83, rfl, hB⟩ := hr83
                cases hB
                refine .p (.move (.t rfl) (.h (.callM hG (Range_e _ _ _ _ (by first | assumption | exact deckNew_ok _) (by first | omega | (simp; done) | (simp; omega) | (simp at *; omega)) (by first | omega | (simp; done) | (simp; omega) | (simp at *; omega)) (by first | omega | (simp; done) | (simp; omega) | (simp at *; omega))) (.s (.s (.s (.s (.s .z))))) (.cons (.t rfl) (.cons (.i rfl) (.cons (.i rfl) .nil))) (by rintro _ _ ⟨_, _, _, _, _, _, rfl⟩; exact ⟨_, rfl⟩) fun r85 B85 hr85 => ?_)))
                obtain ⟨v85, d85, h085, h185, hd85, rfl, hB⟩ := hr85
                cases hB
                refine .p (.bS2 G_api_Terms.l0 G_api_Terms.l1 rfl ty26 fo26 (fun c0 c1 => (⟨c0, c1⟩ : G_api_Terms)) (fun _ _ => rfl) rfl rfl rfl (.t rfl) (.t rfl) (.p (.fldW G_api_Step.l1 fd30_1 rfl (.t rfl) (.n (.stF (fun y x => { x with A := y }) ty3 (.t rfl) (.t rfl) (.s (.s .z)) (fun _ _ => rfl) (.p (.fldW G_api_Step.l2 fd30_2 rfl (.t rfl) (.n (.stF (fun y x => { x with B := y }) ty3 (.t rfl) (.t rfl) (.s (.s .z)) (fun _ _ => rfl) (.p (.fldW G_api_Step.l3 fd30_3 rfl (.t rfl) ?_)))))))))))
                refine .n (.stF (fun y x => { x with N := y }) ty3 (.t rfl) (.t rfl) (.s (.s .z)) (fun _ _ => rfl) (.p (.fldW G_api_Step.l5 fd30_5 rfl (.t rfl) (.n (.stF (fun y x => { x with Terms := y }) ty26 (.t rfl) (.t rfl) (.s (.s .z)) (fun _ _ => rfl) ?_)))))
                refine .nil ?_
                refine .seq ?_
                refine .region rfl ?_
                refine .p (.ldW ty30 (.t rfl) (.s (.s .z)) (.n (.stW ty30 (.t rfl) (.t rfl) (.s (.s (.s .z))) ?_)))
                refine .nil ?_
                refine .ret ?_
                refine ⟨_, .r1 rfl (.cell ty30 rfl (.s (.s (.s .z)))), ?_⟩
                refine ⟨_, .cons (.s (.s (.s (.s (.s .z))))) (.nil), ?_⟩
                dsimp only at *
                first | (have hh : kk = 2 := (by omega); subst hh) | (have hh : kk = 3 := (by omega); subst hh) | (have hh : kk = 4 := (by omega); subst hh) | (have hh : kk = 5 := (by omega); subst hh) | (have hh : kk = 6 := (by omega); subst hh) | (have hh : kk = 7 := (by omega); subst hh) | (have hh : kk = 8 := (by omega); subst hh) | (have hh : kk = 9 := (by omega); subst hh) | (have hh : kk = 10 := (by omega); subst hh) | (have hh : kk = 11 := (by omega); subst hh) | (have hh : kk = 12 := (by omega); subst hh) | (have hh : kk = 13 := (by omega); subst hh) | (have hh : kk = 14 := (by omega); subst hh) | (have hh : kk = 15 := (by omega); subst hh) | (have hh : kk = 16 := (by omega); subst hh) | (have hh : kk = 17 := (by omega); subst hh) | (have hh : kk = 18 := (by omega); subst hh) | (have hh : kk = 19 := (by omega); subst hh) | (have hh : kk = 20 := (by omega); subst hh) | (have hh : kk = 21 := (by omega); subst hh) | (have hh : kk = 22 := (by omega); subst hh) | (have hh : kk = 1 := (by omega); subst hh) | (exfalso; omega)
                exact stepD_of ⟨by dsimp only; omega, by dsimp only; omega⟩ (by assumption) rfl (by first | exact zR | exact ⟨by dsimp only; omega, by dsimp only; omega⟩) (by first | exact zR | exact ⟨by dsimp only; omega, by dsimp only; omega⟩) (by first | exact zR | exact ⟨by dsimp only; omega, by dsimp only; omega⟩) (by first | exact zR | exact ⟨by dsimp only; omega, by dsimp only; omega⟩) (by first | exact zR | exact ⟨by dsimp only; omega, by dsimp only; omega⟩) (by first | exact zR | exact ⟨by dsimp only; omega, by dsimp only; omega⟩) (by first | exact zR | exact ⟨by dsimp only; omega, by dsimp only; omega⟩) (by first | assumption | (intro p hp; cases hp)) (by first | assumption | (dsimp only; omega) | (show ((0 : Nat) : Int) ≤ 2; decide)) (fun h => by first | exact Bool.noConfusion (show false = true from h) | rfl | exact (by decide : ∀ x ∈ ([⟨[97, 110, 110]⟩, ⟨[98, 111, 98]⟩, ⟨[100, 97, 110]⟩] : List Str), isLabel x = true) _ (List.getElem_mem _))
              · refine .seq ?_
                refine .region rfl ?_
                refine .p (.eqlI (.t rfl) (.i rfl) (.p (.assign (.t rfl) ?_)))
                refine .nil ?_
                refine .condP (.t rfl) (fun hc91 => ?_) (fun hc91 => ?_)
                · refine .drawZ [[false, false, false, false, false, false], [false, false, false, false, false, true], [false, false, false, false, false, true], [false, false, true, false, false, true], [false, false, true, false, false, true], [false, false, true, false, false, true]] [[false, false, false, false, false, true], [false, false, false, false, false, false], [], [false, false, true, false, false, true], [false, false, false, false, false, true], [], [false, false, true, false, false, true], [false, false, true, false, false, true], [false, false, false, false, false, true], [], [false, false, true, false, false, true], [], [false, false, true, false, false, true], []] [[], [], [6, 7], [], [], []] [] 5 (by kernel_rfl) 14 [[], [], [(94, 1)], [], [], [(97, 4)], [(96, 3), (98, 5)], [(99, 6)], [], [(101, 8), (93, 0)], [], [(102, 10), (95, 2)], [], [(103, 12), (100, 7)]] [2, 5, 9, 11, 13] rfl (by kernel_rfl) rfl (by kernel_rfl) rfl (by decide) (by simp) (fun p hp => by cases hp) (by kernel_rfl) rfl ?_
                  refine ⟨_, fun H => OpP.move (.t rfl) rfl, ?_⟩
                  refine ⟨_, fun H => OpP.move (.t rfl) rfl, ?_⟩
                  refine .inl ?_
                  refine ⟨_, fun H => OpP.buildSliceF (α := Str) ty9 Tryz.underlying36 (.cons (.s [97, 110, 110] (by decide) (by decide)) (.cons (.s [98, 111, 98] (by decide) (by decide)) (.cons (.s [100, 97, 110] (by decide) (by decide)) .nil))) rfl (by decide) rfl, ?_⟩
                  refine ⟨_, fun H => OpP.move (.t rfl) rfl, ?_⟩
                  refine .inl ?_
                  refine .inl ?_
                  refine .inl ?_
                  refine ⟨_, fun H => OpP.fldW G_api_Step.l1 fd30_1 rfl (.t rfl) rfl, ?_⟩
                  refine .inl ?_
                  refine ⟨_, fun H => OpP.fldW G_api_Step.l2 fd30_2 rfl (.t rfl) rfl, ?_⟩
                  refine .inl ?_
                  refine ⟨_, fun H => OpP.fldW G_api_Step.l6 fd30_6 rfl (.t rfl) rfl, ?_⟩
                  refine .inl ?_
                  refine ⟨rfl, ?_⟩
                  refine ⟨⟨fun k => List.getD [(true, .none_), (true, .none_), (true, .none_), (true, .none_), (true, .none_), (true, .none_)] k (true, .none_), rfl⟩, fun Ys20 => ?_⟩
                  refine OpH.callM hG (Next_e _ _ _ (by first | assumption | exact deckNew_ok _) (by first | omega | (simp; done) | (simp; omega) | (simp at *; omega)) (by first | omega | (simp; done) | (simp; omega) | (simp at *; omega))) (Hole.app (Hole.app (.s (.s (.s (.s (.s .z))))))) (.cons (.t rfl) (.cons (.i rfl) .nil)) (by rintro _ _ ⟨_, _, _, _, _, _, rfl⟩; exact ⟨_, rfl⟩) fun r95 B95 hr95 => ?_
                  obtain ⟨v95, d95, h095, h195, hd95, rfl, hB⟩ := hr95
                  cases hB
                  refine ⟨[], _, rfl, ?_⟩
                  refine ⟨⟨fun k => List.getD [(true, .none_), (true, .none_), (true, .none_), (true, .none_), (true, .none_), _] k (true, .none_), rfl⟩, fun Ys20 => ?_⟩
                  refine OpH.callM hG (Next_e _ _ _ (by first | assumption | exact deckNew_ok _) (by first | omega | (simp; done) | (simp; omega) | (simp at *; omega)) (by first | omega | (simp; done) | (simp; omega) | (simp at *; omega))) (Hole.app (Hole.app (.s (.s (.s (.s (.s .z))))))) (.cons (.t rfl) (.cons (.i rfl) .nil)) (by rintro _ _ ⟨_, _, _, _, _, _, rfl⟩; exact ⟨_, rfl⟩) fun r98 B98 hr98 => ?_
                  obtain ⟨v98, d98, h098, h198, hd98, rfl, hB⟩ := hr98
                  cases hB
                  refine ⟨[], _, rfl, ?_⟩
                  refine ⟨_, fun H => OpP.idx ty9 Tryz.underlying36 (.c rfl) (.t rfl) (by first | omega | (simp; done) | (simp; omega) | (simp at *; omega)) (by first | omega | (simp; done) | (simp; omega) | (simp at *; omega)) rfl, ?_⟩
                  refine ⟨_, fun H => OpP.ldP ty9 (.t rfl) rfl, ?_⟩
                  refine ⟨⟨fun k => List.getD [(true, .none_), (true, .none_), (true, .none_), (true, .none_), (true, .none_), _] k (true, .none_), rfl⟩, fun Ys20 => ?_⟩
                  refine OpH.stF (fun y x => { x with A := y }) ty3 (.t rfl) (.t rfl) (Hole.app (Hole.app (.s (.s .z)))) (fun _ _ => rfl) ?_
                  refine ⟨[], _, rfl, ?_⟩
                  refine ⟨⟨fun k => List.getD [(true, .none_), (true, .none_), _, (true, .none_), (true, .none_), _] k (true, .none_), rfl⟩, fun Ys20 => ?_⟩
                  refine OpH.stF (fun y x => { x with B := y }) ty3 (.t rfl) (.t rfl) (Hole.app (Hole.app (.s (.s .z)))) (fun _ _ => rfl) ?_
                  refine ⟨[], _, rfl, ?_⟩
                  refine ⟨⟨fun k => List.getD [(true, .none_), (true, .none_), _, (true, .none_), (true, .none_), _] k (true, .none_), rfl⟩, fun Ys20 => ?_⟩
                  refine OpH.stF (fun y x => { x with Holder := y }) ty9 (.t rfl) (.t rfl) (Hole.app (Hole.app (.s (.s .z)))) (fun _ _ => rfl) ?_
                  refine ⟨[], _, rfl, ?_⟩
                  refine ⟨⟨fun k => List.getD [(true, .none_), (true, .none_), _, (true, .none_), (true, .none_), _] k (true, .none_), rfl⟩, fun ws20 => ?_⟩
                  refine ⟨⟨fun k => List.getD [(true, .none_), (true, .none_), _, (true, .none_), (true, .none_), _] k (true, .none_), rfl⟩, fun _ => ?_⟩
                  show wpB _ _ _ _ _ _ ((103, _) :: (102, _) :: (101, _) :: (100, _) :: (99, _) :: (98, _) :: (97, _) :: (96, _) :: (95, _) :: (94, _) :: (93, _) :: _) _
                  refine .nil ?_
                  refine .seq ?_
                  refine .region rfl ?_
                  refine .p (.ldW ty30 (.t rfl) (.s (.s .z)) (.n (.stW ty30 (.t rfl) (.t rfl) (.s (.s (.s .z))) ?_)))
                  refine .nil ?_
                  refine .ret ?_
                  refine ⟨_, .r1 rfl (.cell ty30 rfl (.s (.s (.s .z)))), ?_⟩
                  refine ⟨_, .cons (.s (.s (.s (.s (.s .z))))) (.nil), ?_⟩
                  dsimp only at *
                  first | (have hh : kk = 2 := (by omega); subst hh) | (have hh : kk = 3 := (by omega); subst hh) | (have hh : kk = 4 := (by omega); subst hh) | (have hh : kk = 5 := (by omega); subst hh) | (have hh : kk = 6 := (by omega); subst hh) | (have hh : kk = 7 := (by omega); subst hh) | (have hh : kk = 8 := (by omega); subst hh) | (have hh : kk = 9 := (by omega); subst hh) | (have hh : kk = 10 := (by omega); subst hh) | (have hh : kk = 11 := (by omega); subst hh) | (have hh : kk = 12 := (by omega); subst hh) | (have hh : kk = 13 := (by omega); subst hh) | (have hh : kk = 14 := (by omega); subst hh) | (have hh : kk = 15 := (by omega); subst hh) | (have hh : kk = 16 := (by omega); subst hh) | (have hh : kk = 17 := (by omega); subst hh) | (have hh : kk = 18 := (by omega); subst hh) | (have hh : kk = 19 := (by omega); subst hh) | (have hh : kk = 20 := (by omega); subst hh) | (have hh : kk = 21 := (by omega); subst hh) | (have hh : kk = 22 := (by omega); subst hh) | (have hh : kk = 1 := (by omega); subst hh) | (exfalso; omega)
                  exact stepD_of ⟨by dsimp only; omega, by dsimp only; omega⟩ (by assumption) rfl (by first | exact zR | exact ⟨by dsimp only; omega, by dsimp only; omega⟩) (by first | exact zR | exact ⟨by dsimp only; omega, by dsimp only; omega⟩) (by first | exact zR | exact ⟨by dsimp only; omega, by dsimp only; omega⟩) (by first | exact zR | exact ⟨by dsimp only; omega, by dsimp only; omega⟩) (by first | exact zR | exact ⟨by dsimp only; omega, by dsimp only; omega⟩) (by first | exact zR | exact ⟨by dsimp only; omega, by dsimp only; omega⟩) (by first | exact zR | exact ⟨by dsimp only; omega, by dsimp only; omega⟩) (by first | assumption | (intro p hp; cases hp)) (by first | assumption | (dsimp only; omega) | (show ((0 : Nat) : Int) ≤ 2; decide)) (fun h => by first | exact Bool.noConfusion (show false = true from h) | rfl | exact (by decide : ∀ x ∈ ([⟨[97, 110, 110]⟩, ⟨[98, 111, 98]⟩, ⟨[100, 97, 110]⟩] : List Str), isLabel x = true) _ (List.getElem_mem _))
                · refine .seq ?_
                  refine .region rfl ?_
                  refine .p (.eqlI (.t rfl) (.i rfl) (.p (.assign (.t rfl) ?_)))
                  refine .nil ?_
                  refine .condP (.t rfl) (fun hc104 => ?_) (fun hc104 => ?_)
                  · refine .drawCF [false, false, false, false, false, true] (by kernel_rfl) 8 [[], [], [(107, 1)], [], [], [(110, 4)], [(109, 3), (111, 5)], []] [2, 6] rfl (by kernel_rfl) rfl (by kernel_rfl) (by decide) ?_
                    refine ⟨_, fun H => OpP.move (.t rfl) rfl, ?_⟩
                    refine ⟨_, fun H => OpP.move (.t rfl) rfl, ?_⟩
                    refine .inl ?_
                    refine ⟨_, fun H => OpP.move (.t rfl) rfl, ?_⟩
                    refine ⟨_, fun H => OpP.fldW G_api_Config.l3 fd56_3 rfl (.t rfl) rfl, ?_⟩
                    refine ⟨_, fun H => OpP.ldF (fun x => x.Wallets) ty3 (.t rfl) (Hole.app (.s (.s (.s (.s .z))))) (fun _ => rfl) rfl, ?_⟩
                    refine .inl ?_
                    refine ⟨_, fun H => OpP.fldW G_api_Step.l1 fd30_1 rfl (.t rfl) rfl, ?_⟩
                    refine ⟨⟨([], fun k => List.getD [(true, .none_), (true, .none_), (true, .none_), (true, .none_), (true, .none_), _] k (true, .none_)), rfl⟩, ?_⟩
                    refine OpH.callM hG (Next_e _ _ _ (by first | assumption | exact deckNew_ok _) (by first | omega | (simp; done) | (simp; omega) | (simp at *; omega)) (by first | omega | (simp; done) | (simp; omega) | (simp at *; omega))) (.s (.s (.s (.s (.s .z))))) (.cons (.t rfl) (.cons (.i rfl) .nil)) (by rintro _ _ ⟨_, _, _, _, _, _, rfl⟩; exact ⟨_, rfl⟩) fun r108 B108 hr108 => ?_
                    obtain ⟨v108, d108, h0108, h1108, hd108, rfl, hB⟩ := hr108
                    cases hB
                    refine ⟨⟨([], fun k => List.getD [(true, .none_), (true, .none_), (true, .none_), (true, .none_), (true, .none_), _] k (true, .none_)), rfl⟩, ?_⟩
                    refine OpH.callM hG (Next_e _ _ _ (by first | assumption | exact deckNew_ok _) (by first | omega | (simp; done) | (simp; omega) | (simp at *; omega)) (by first | omega | (simp; done) | (simp; omega) | (simp at *; omega))) (.s (.s (.s (.s (.s .z))))) (.cons (.t rfl) (.cons (.t rfl) .nil)) (by rintro _ _ ⟨_, _, _, _, _, _, rfl⟩; exact ⟨_, rfl⟩) fun r112 B112 hr112 => ?_
                    obtain ⟨v112, d112, h0112, h1112, hd112, rfl, hB⟩ := hr112
                    cases hB
                    refine ⟨⟨([], fun k => List.getD [(true, .none_), (true, .none_), (true, .none_), (true, .none_), (true, .none_), _] k (true, .none_)), rfl⟩, ?_⟩
                    show wpB _ _ _ _ _ _ ((113, _) :: (112, _) :: (111, _) :: (110, _) :: (109, _) :: (108, _) :: (107, _) :: (106, _) :: _) _
                    refine .n (.stF (fun y x => { x with A := y }) ty3 (.t rfl) (.t rfl) (.s (.s .z)) (fun _ _ => rfl) (.p (.fldW G_api_Step.l2 fd30_2 rfl (.t rfl) (.n (.stF (fun y x => { x with B := y }) ty3 (.t rfl) (.t rfl) (.s (.s .z)) (fun _ _ => rfl) (.p (.fldW G_api_Step.l3 fd30_3 rfl (.t rfl) (.n (.stF (fun y x => { x with N := y }) ty3 (.t rfl) (.t rfl) (.s (.s .z)) (fun _ _ => rfl) ?_)))))))))
                    refine .nil ?_
                    refine .seq ?_
                    refine .region rfl ?_
                    refine .p (.ldW ty30 (.t rfl) (.s (.s .z)) (.n (.stW ty30 (.t rfl) (.t rfl) (.s (.s (.s .z))) ?_)))
                    refine .nil ?_
                    refine .ret ?_
                    refine ⟨_, .r1 rfl (.cell ty30 rfl (.s (.s (.s .z)))), ?_⟩
                    refine ⟨_, .cons (.s (.s (.s (.s (.s .z))))) (.nil), ?_⟩
                    dsimp only at *
                    first | (have hh : kk = 2 := (by omega); subst hh) | (have hh : kk = 3 := (by omega); subst hh) | (have hh : kk = 4 := (by omega); subst hh) | (have hh : kk = 5 := (by omega); subst hh) | (have hh : kk = 6 := (by omega); subst hh) | (have hh : kk = 7 := (by omega); subst hh) | (have hh : kk = 8 := (by omega); subst hh) | (have hh : kk = 9 := (by omega); subst hh) | (have hh : kk = 10 := (by omega); subst hh) | (have hh : kk = 11 := (by omega); subst hh) | (have hh : kk = 12 := (by omega); subst hh) | (have hh : kk = 13 := (by omega); subst hh) | (have hh : kk = 14 := (by omega); subst hh) | (have hh : kk = 15 := (by omega); subst hh) | (have hh : kk = 16 := (by omega); subst hh) | (have hh : kk = 17 := (by omega); subst hh) | (have hh : kk = 18 := (by omega); subst hh) | (have hh : kk = 19 := (by omega); subst hh) | (have hh : kk = 20 := (by omega); subst hh) | (have hh : kk = 21 := (by omega); subst hh) | (have hh : kk = 22 := (by omega); subst hh) | (have hh : kk = 1 := (by omega); subst hh) | (exfalso; omega)
                    exact stepD_of ⟨by dsimp only; omega, by dsimp only; omega⟩ (by assumption) rfl (by first | exact zR | exact ⟨by dsimp only; omega, by dsimp only; omega⟩) (by first | exact zR | exact ⟨by dsimp only; omega, by dsimp only; omega⟩) (by first | exact zR | exact ⟨by dsimp only; omega, by dsimp only; omega⟩) (by first | exact zR | exact ⟨by dsimp only; omega, by dsimp only; omega⟩) (by first | exact zR | exact ⟨by dsimp only; omega, by dsimp only; omega⟩) (by first | exact zR | exact ⟨by dsimp only; omega, by dsimp only; omega⟩) (by first | exact zR | exact ⟨by dsimp only; omega, by dsimp only; omega⟩) (by first | assumption | (intro p hp; cases hp)) (by first | assumption | (dsimp only; omega) | (show ((0 : Nat) : Int) ≤ 2; decide)) (fun h => by first | exact Bool.noConfusion (show false = true from h) | rfl | exact (by decide : ∀ x ∈ ([⟨[97, 110, 110]⟩, ⟨[98, 111, 98]⟩, ⟨[100, 97, 110]⟩] : List Str), isLabel x = true) _ (List.getElem_mem _))
                  · refine .seq ?_
                    refine .region rfl ?_
                    refine .p (.eqlI (.t rfl) (.i rfl) (.p (.assign (.t rfl) ?_)))
                    refine .nil ?_
                    refine .condP (.t rfl) (fun hc116 => ?_) (fun hc116 => ?_)
                    · refine .region rfl ?_
                      refine .p (.move (.t rfl) (.p (.fldW G_api_Step.l1 fd30_1 rfl (.t rfl) (.n (.stF (fun y x => { x with A := y }) ty3 (.t rfl) (.t rfl) (.s (.s .z)) (fun _ _ => rfl) ?_)))))
                      refine .nil ?_
                      refine .seq ?_
                      refine .region rfl ?_
                      refine .p (.ldW ty30 (.t rfl) (.s (.s .z)) (.n (.stW ty30 (.t rfl) (.t rfl) (.s (.s (.s .z))) ?_)))
                      refine .nil ?_
                      refine .ret ?_
                      refine ⟨_, .r1 rfl (.cell ty30 rfl (.s (.s (.s .z)))), ?_⟩
                      refine ⟨_, .cons (.s (.s (.s (.s (.s .z))))) (.nil), ?_⟩
                      dsimp only at *
                      first | (have hh : kk = 2 := (by omega); subst hh) | (have hh : kk = 3 := (by omega); subst hh) | (have hh : kk = 4 := (by omega); subst hh) | (have hh : kk = 5 := (by omega); subst hh) | (have hh : kk = 6 := (by omega); subst hh) | (have hh : kk = 7 := (by omega); subst hh) | (have hh : kk = 8 := (by omega); subst hh) | (have hh : kk = 9 := (by omega); subst hh) | (have hh : kk = 10 := (by omega); subst hh) | (have hh : kk = 11 := (by omega); subst hh) | (have hh : kk = 12 := (by omega); subst hh) | (have hh : kk = 13 := (by omega); subst hh) | (have hh : kk = 14 := (by omega); subst hh) | (have hh : kk = 15 := (by omega); subst hh) | (have hh : kk = 16 := (by omega); subst hh) | (have hh : kk = 17 := (by omega); subst hh) | (have hh : kk = 18 := (by omega); subst hh) | (have hh : kk = 19 := (by omega); subst hh) | (have hh : kk = 20 := (by omega); subst hh) | (have hh : kk = 21 := (by omega); subst hh) | (have hh : kk = 22 := (by omega); subst hh) | (have hh : kk = 1 := (by omega); subst hh) | (exfalso; omega)
                      exact stepD_of ⟨by dsimp only; omega, by dsimp only; omega⟩ (by assumption) rfl (by first | exact zR | exact ⟨by dsimp only; omega, by dsimp only; omega⟩) (by first | exact zR | exact ⟨by dsimp only; omega, by dsimp only; omega⟩) (by first | exact zR | exact ⟨by dsimp only; omega, by dsimp only; omega⟩) (by first | exact zR | exact ⟨by dsimp only; omega, by dsimp only; omega⟩) (by first | exact zR | exact ⟨by dsimp only; omega, by dsimp only; omega⟩) (by first | exact zR | exact ⟨by dsimp only; omega, by dsimp only; omega⟩) (by first | exact zR | exact ⟨by dsimp only; omega, by dsimp only; omega⟩) (by first | assumption | (intro p hp; cases hp)) (by first | assumption | (dsimp only; omega) | (show ((0 : Nat) : Int) ≤ 2; decide)) (fun h => by first | exact Bool.noConfusion (show false = true from h) | rfl | exact (by decide : ∀ x ∈ ([⟨[97, 110, 110]⟩, ⟨[98, 111, 98]⟩, ⟨[100, 97, 110]⟩] : List Str), isLabel x = true) _ (List.getElem_mem _))
                    · refine .seq ?_
                      refine .seq ?_
                      refine .region rfl ?_
                      refine .p (.eqlI (.t rfl) (.i rfl) (.p (.assign (.t rfl) ?_)))
                      refine .nil ?_
                      refine .condP (.t rfl) (fun hc120 => ?_) (fun hc120 => ?_)
                      · refine .skip ?_
                        refine .condP (.t rfl) (fun hc120y => ?_) (fun y => absurd hc120 y)
                        refine .region rfl ?_
                        refine .p (.move (.t rfl) (.p (.fldW G_api_Config.l2 fd56_2 rfl (.t rfl) (.p (.ldF (fun x => x.Gates) ty3 (.t rfl) (.s (.s (.s (.s .z)))) (fun _ => rfl) (.p (.sub (.t rfl) (.i rfl) (by first | omega | (simp; done) | (simp; omega) | (simp at *; omega)) (by first | omega | (simp; done) | (simp; omega) | (simp at *; omega)) (.h (.callM hG (Range_e _ _ _ _ (by first | assumption | exact deckNew_ok _) (by first | omega | (simp; done) | (simp; omega) | (simp at *; omega)) (by first | omega | (simp; done) | (simp; omega) | (simp at *; omega)) (by first | omega | (simp; done) | (simp; omega) | (simp at *; omega))) (.s (.s (.s (.s (.s .z))))) (.cons (.t rfl) (.cons (.i rfl) (.cons (.t rfl) .nil))) (by rintro _ _ ⟨_, _, _, _, _, _, rfl⟩; exact ⟨_, rfl⟩) fun r127 B127 hr127 => ?_)))))))))
                        obtain ⟨v127, d127, h0127, h1127, hd127, rfl, hB⟩ := hr127
                        cases hB
                        refine .p (.fldW G_api_Step.l1 fd30_1 rfl (.t rfl) (.n (.stF (fun y x => { x with A := y }) ty3 (.t rfl) (.t rfl) (.s (.s .z)) (fun _ _ => rfl) ?_)))
                        refine .nil ?_
                        refine .seq ?_
                        refine .region rfl ?_
                        refine .p (.ldW ty30 (.t rfl) (.s (.s .z)) (.n (.stW ty30 (.t rfl) (.t rfl) (.s (.s (.s .z))) ?_)))
                        refine .nil ?_
                        refine .ret ?_
                        refine ⟨_, .r1 rfl (.cell ty30 rfl (.s (.s (.s .z)))), ?_⟩
                        refine ⟨_, .cons (.s (.s (.s (.s (.s .z))))) (.nil), ?_⟩
                        dsimp only at *
                        first | (have hh : kk = 2 := (by omega); subst hh) | (have hh : kk = 3 := (by omega); subst hh) | (have hh : kk = 4 := (by omega); subst hh) | (have hh : kk = 5 := (by omega); subst hh) | (have hh : kk = 6 := (by omega); subst hh) | (have hh : kk = 7 := (by omega); subst hh) | (have hh : kk = 8 := (by omega); subst hh) | (have hh : kk = 9 := (by omega); subst hh) | (have hh : kk = 10 := (by omega); subst hh) | (have hh : kk = 11 := (by omega); subst hh) | (have hh : kk = 12 := (by omega); subst hh) | (have hh : kk = 13 := (by omega); subst hh) | (have hh : kk = 14 := (by omega); subst hh) | (have hh : kk = 15 := (by omega); subst hh) | (have hh : kk = 16 := (by omega); subst hh) | (have hh : kk = 17 := (by omega); subst hh) | (have hh : kk = 18 := (by omega); subst hh) | (have hh : kk = 19 := (by omega); subst hh) | (have hh : kk = 20 := (by omega); subst hh) | (have hh : kk = 21 := (by omega); subst hh) | (have hh : kk = 22 := (by omega); subst hh) | (have hh : kk = 1 := (by omega); subst hh) | (exfalso; omega)
                        exact stepD_of ⟨by dsimp only; omega, by dsimp only; omega⟩ (by assumption) rfl (by first | exact zR | exact ⟨by dsimp only; omega, by dsimp only; omega⟩) (by first | exact zR | exact ⟨by dsimp only; omega, by dsimp only; omega⟩) (by first | exact zR | exact ⟨by dsimp only; omega, by dsimp only; omega⟩) (by first | exact zR | exact ⟨by dsimp only; omega, by dsimp only; omega⟩) (by first | exact zR | exact ⟨by dsimp only; omega, by dsimp only; omega⟩) (by first | exact zR | exact ⟨by dsimp only; omega, by dsimp only; omega⟩) (by first | exact zR | exact ⟨by dsimp only; omega, by dsimp only; omega⟩) (by first | assumption | (intro p hp; cases hp)) (by first | assumption | (dsimp only; omega) | (show ((0 : Nat) : Int) ≤ 2; decide)) (fun h => by first | exact Bool.noConfusion (show false = true from h) | rfl | exact (by decide : ∀ x ∈ ([⟨[97, 110, 110]⟩, ⟨[98, 111, 98]⟩, ⟨[100, 97, 110]⟩] : List Str), isLabel x = true) _ (List.getElem_mem _))
                      · refine .region rfl ?_
                        refine .p (.eqlI (.t rfl) (.i rfl) (.p (.assign (.t rfl) ?_)))
                        refine .nil ?_
                        refine .condP (.t rfl) (fun hc120 => ?_) (fun hc120 => ?_)
                        · refine .region rfl ?_
                          refine .p (.move (.t rfl) (.p (.fldW G_api_Config.l2 fd56_2 rfl (.t rfl) (.p (.ldF (fun x => x.Gates) ty3 (.t rfl) (.s (.s (.s (.s .z)))) (fun _ => rfl) (.p (.sub (.t rfl) (.i rfl) (by first | omega | (simp; done) | (simp; omega) | (simp at *; omega)) (by first | omega | (simp; done) | (simp; omega) | (simp at *; omega)) (.h (.callM hG (Range_e _ _ _ _ (by first | assumption | exact deckNew_ok _) (by first | omega | (simp; done) | (simp; omega) | (simp at *; omega)) (by first | omega | (simp; done) | (simp; omega) | (simp at *; omega)) (by first | omega | (simp; done) | (simp; omega) | (simp at *; omega))) (.s (.s (.s (.s (.s .z))))) (.cons (.t rfl) (.cons (.i rfl) (.cons (.t rfl) .nil))) (by rintro _ _ ⟨_, _, _, _, _, _, rfl⟩; exact ⟨_, rfl⟩) fun r127 B127 hr127 => ?_)))))))))
                          obtain ⟨v127, d127, h0127, h1127, hd127, rfl, hB⟩ := hr127
                          cases hB
                          refine .p (.fldW G_api_Step.l1 fd30_1 rfl (.t rfl) (.n (.stF (fun y x => { x with A := y }) ty3 (.t rfl) (.t rfl) (.s (.s .z)) (fun _ _ => rfl) ?_)))
                          refine .nil ?_
                          refine .seq ?_
                          refine .region rfl ?_
                          refine .p (.ldW ty30 (.t rfl) (.s (.s .z)) (.n (.stW ty30 (.t rfl) (.t rfl) (.s (.s (.s .z))) ?_)))
                          refine .nil ?_
                          refine .ret ?_
                          refine ⟨_, .r1 rfl (.cell ty30 rfl (.s (.s (.s .z)))), ?_⟩
                          refine ⟨_, .cons (.s (.s (.s (.s (.s .z))))) (.nil), ?_⟩
                          dsimp only at *
                          first | (have hh : kk = 2 := (by omega); subst hh) | (have hh : kk = 3 := (by omega); subst hh) | (have hh : kk = 4 := (by omega); subst hh) | (have hh : kk = 5 := (by omega); subst hh) | (have hh : kk = 6 := (by omega); subst hh) | (have hh : kk = 7 := (by omega); subst hh) | (have hh : kk = 8 := (by omega); subst hh) | (have hh : kk = 9 := (by omega); subst hh) | (have hh : kk = 10 := (by omega); subst hh) | (have hh : kk = 11 := (by omega); subst hh) | (have hh : kk = 12 := (by omega); subst hh) | (have hh : kk = 13 := (by omega); subst hh) | (have hh : kk = 14 := (by omega); subst hh) | (have hh : kk = 15 := (by omega); subst hh) | (have hh : kk = 16 := (by omega); subst hh) | (have hh : kk = 17 := (by omega); subst hh) | (have hh : kk = 18 := (by omega); subst hh) | (have hh : kk = 19 := (by omega); subst hh) | (have hh : kk = 20 := (by omega); subst hh) | (have hh : kk = 21 := (by omega); subst hh) | (have hh : kk = 22 := (by omega); subst hh) | (have hh : kk = 1 := (by omega); subst hh) | (exfalso; omega)
                          exact stepD_of ⟨by dsimp only; omega, by dsimp only; omega⟩ (by assumption) rfl (by first | exact zR | exact ⟨by dsimp only; omega, by dsimp only; omega⟩) (by first | exact zR | exact ⟨by dsimp only; omega, by dsimp only; omega⟩) (by first | exact zR | exact ⟨by dsimp only; omega, by dsimp only; omega⟩) (by first | exact zR | exact ⟨by dsimp only; omega, by dsimp only; omega⟩) (by first | exact zR | exact ⟨by dsimp only; omega, by dsimp only; omega⟩) (by first | exact zR | exact ⟨by dsimp only; omega, by dsimp only; omega⟩) (by first | exact zR | exact ⟨by dsimp only; omega, by dsimp only; omega⟩) (by first | assumption | (intro p hp; cases hp)) (by first | assumption | (dsimp only; omega) | (show ((0 : Nat) : Int) ≤ 2; decide)) (fun h => by first | exact Bool.noConfusion (show false = true from h) | rfl | exact (by decide : ∀ x ∈ ([⟨[97, 110, 110]⟩, ⟨[98, 111, 98]⟩, ⟨[100, 97, 110]⟩] : List Str), isLabel x = true) _ (List.getElem_mem _))
                        · refine .seq ?_
                          refine .region rfl ?_
                          refine .p (.eqlI (.t rfl) (.i rfl) (.p (.assign (.t rfl) ?_)))
                          refine .nil ?_
                          refine .condP (.t rfl) (fun hc129 => ?_) (fun hc129 => ?_)
                          · refine .drawCF [false, false, true, false, false, true] (by kernel_rfl) 13 [[], [], [(132, 1)], [], [], [], [(136, 5), (131, 0)], [], [(137, 7), (133, 2)], [], [(138, 9), (134, 3)], [], [(139, 11), (135, 4)]] [2, 6, 8, 10, 12] rfl (by kernel_rfl) rfl (by kernel_rfl) (by decide) ?_
                            refine ⟨_, fun H => OpP.move (.t rfl) rfl, ?_⟩
                            refine ⟨_, fun H => OpP.move (.t rfl) rfl, ?_⟩
                            refine .inl ?_
                            refine ⟨_, fun H => OpP.move (.t rfl) rfl, ?_⟩
                            refine ⟨_, fun H => OpP.ldW ty28 (.t rfl) (Hole.app .z) rfl, ?_⟩
                            refine ⟨_, fun H => OpP.fldW G_api_Step.l1 fd30_1 rfl (.t rfl) rfl, ?_⟩
                            refine .inl ?_
                            refine ⟨_, fun H => OpP.fldW G_api_Step.l2 fd30_2 rfl (.t rfl) rfl, ?_⟩
                            refine .inl ?_
                            refine ⟨_, fun H => OpP.fldW G_api_Step.l3 fd30_3 rfl (.t rfl) rfl, ?_⟩
                            refine .inl ?_
                            refine ⟨_, fun H => OpP.fldW G_api_Step.l7 fd30_7 rfl (.t rfl) rfl, ?_⟩
                            refine .inl ?_
                            refine ⟨⟨([], fun k => List.getD [(true, .none_), (true, .none_), _, (true, .none_), (true, .none_), _] k (true, .none_)), rfl⟩, ?_⟩
                            refine OpH.callM hG (Next_e _ _ _ (by first | assumption | exact deckNew_ok _) (by first | omega | (simp; done) | (simp; omega) | (simp at *; omega)) (by first | omega | (simp; done) | (simp; omega) | (simp at *; omega))) (.s (.s (.s (.s (.s .z))))) (.cons (.t rfl) (.cons (.i rfl) .nil)) (by rintro _ _ ⟨_, _, _, _, _, _, rfl⟩; exact ⟨_, rfl⟩) fun r133 B133 hr133 => ?_
                            obtain ⟨v133, d133, h0133, h1133, hd133, rfl, hB⟩ := hr133
                            cases hB
                            refine ⟨⟨([], fun k => List.getD [(true, .none_), (true, .none_), _, (true, .none_), (true, .none_), _] k (true, .none_)), rfl⟩, ?_⟩
                            refine OpH.stF (fun y x => { x with A := y }) ty3 (.t rfl) (.t rfl) (.s (.s .z)) (fun _ _ => rfl) ?_
                            refine ⟨⟨([], fun k => List.getD [(true, .none_), (true, .none_), _, (true, .none_), (true, .none_), _] k (true, .none_)), rfl⟩, ?_⟩
                            refine OpH.stF (fun y x => { x with B := y }) ty3 (.t rfl) (.t rfl) (.s (.s .z)) (fun _ _ => rfl) ?_
                            refine ⟨⟨([], fun k => List.getD [(true, .none_), (true, .none_), _, (true, .none_), (true, .none_), _] k (true, .none_)), rfl⟩, ?_⟩
                            refine OpH.stF (fun y x => { x with N := y }) ty3 (.t rfl) (.t rfl) (.s (.s .z)) (fun _ _ => rfl) ?_
                            refine ⟨⟨([], fun k => List.getD [(true, .none_), (true, .none_), _, (true, .none_), (true, .none_), _] k (true, .none_)), rfl⟩, ?_⟩
                            refine OpH.stF (fun y x => { x with Context := y }) ty28 (.t rfl) (.t rfl) (.s (.s .z)) (fun _ _ => rfl) ?_
                            refine ⟨⟨([], fun k => List.getD [(true, .none_), (true, .none_), _, (true, .none_), (true, .none_), _] k (true, .none_)), rfl⟩, ?_⟩
                            show wpB _ _ _ _ _ _ ((139, _) :: (138, _) :: (137, _) :: (136, _) :: (135, _) :: (134, _) :: (133, _) :: (132, _) :: (131, _) :: _) _
                            refine .nil ?_
                            refine .seq ?_
                            refine .region rfl ?_
                            refine .p (.ldW ty30 (.t rfl) (.s (.s .z)) (.n (.stW ty30 (.t rfl) (.t rfl) (.s (.s (.s .z))) ?_)))
                            refine .nil ?_
                            refine .ret ?_
                            refine ⟨_, .r1 rfl (.cell ty30 rfl (.s (.s (.s .z)))), ?_⟩
                            refine ⟨_, .cons (.s (.s (.s (.s (.s .z))))) (.nil), ?_⟩
                            dsimp only at *
                            first | (have hh : kk = 2 := (by omega); subst hh) | (have hh : kk = 3 := (by omega); subst hh) | (have hh : kk = 4 := (by omega); subst hh) | (have hh : kk = 5 := (by omega); subst hh) | (have hh : kk = 6 := (by omega); subst hh) | (have hh : kk = 7 := (by omega); subst hh) | (have hh : kk = 8 := (by omega); subst hh) | (have hh : kk = 9 := (by omega); subst hh) | (have hh : kk = 10 := (by omega); subst hh) | (have hh : kk = 11 := (by omega); subst hh) | (have hh : kk = 12 := (by omega); subst hh) | (have hh : kk = 13 := (by omega); subst hh) | (have hh : kk = 14 := (by omega); subst hh) | (have hh : kk = 15 := (by omega); subst hh) | (have hh : kk = 16 := (by omega); subst hh) | (have hh : kk = 17 := (by omega); subst hh) | (have hh : kk = 18 := (by omega); subst hh) | (have hh : kk = 19 := (by omega); subst hh) | (have hh : kk = 20 := (by omega); subst hh) | (have hh : kk = 21 := (by omega); subst hh) | (have hh : kk = 22 := (by omega); subst hh) | (have hh : kk = 1 := (by omega); subst hh) | (exfalso; omega)
                            exact stepD_of ⟨by dsimp only; omega, by dsimp only; omega⟩ (by assumption) rfl (by first | exact zR | exact ⟨by dsimp only; omega, by dsimp only; omega⟩) (by first | exact zR | exact ⟨by dsimp only; omega, by dsimp only; omega⟩) (by first | exact zR | exact ⟨by dsimp only; omega, by dsimp only; omega⟩) (by first | exact zR | exact ⟨by dsimp only; omega, by dsimp only; omega⟩) (by first | exact zR | exact ⟨by dsimp only; omega, by dsimp only; omega⟩) (by first | exact zR | exact ⟨by dsimp only; omega, by dsimp only; omega⟩) (by first | exact zR | exact ⟨by dsimp only; omega, by dsimp only; omega⟩) (by first | assumption | (intro p hp; cases hp)) (by first | assumption | (dsimp only; omega) | (show ((0 : Nat) : Int) ≤ 2; decide)) (fun h => by first | exact Bool.noConfusion (show false = true from h) | rfl | exact (by decide : ∀ x ∈ ([⟨[97, 110, 110]⟩, ⟨[98, 111, 98]⟩, ⟨[100, 97, 110]⟩] : List Str), isLabel x = true) _ (List.getElem_mem _))
                          · refine .seq ?_
                            refine .seq ?_
                            refine .region rfl ?_
                            refine .p (.eqlI (.t rfl) (.i rfl) (.p (.assign (.t rfl) ?_)))
                            refine .nil ?_
                            refine .condP (.t rfl) (fun hc140 => ?_) (fun hc140 => ?_)
                            · refine .skip ?_
                              refine .condP (.t rfl) (fun hc140y => ?_) (fun y => absurd hc140 y)
                              refine .region rfl ?_
                              refine .p (.move (.t rfl) (.h (.callM hG (Next_e _ _ _ (by first | assumption | exact deckNew_ok _) (by first | omega | (simp; done) | (simp; omega) | (simp at *; omega)) (by first | omega | (simp; done) | (simp; omega) | (simp at *; omega))) (.s (.s (.s (.s (.s .z))))) (.cons (.t rfl) (.cons (.i rfl) .nil)) (by rintro _ _ ⟨_, _, _, _, _, _, rfl⟩; exact ⟨_, rfl⟩) fun r145 B145 hr145 => ?_)))
                              obtain ⟨v145, d145, h0145, h1145, hd145, rfl, hB⟩ := hr145
                              cases hB
                              refine .p (.fldW G_api_Step.l3 fd30_3 rfl (.t rfl) (.n (.stF (fun y x => { x with N := y }) ty3 (.t rfl) (.t rfl) (.s (.s .z)) (fun _ _ => rfl) ?_)))
                              refine .nil ?_
                              refine .seq ?_
                              refine .region rfl ?_
                              refine .p (.ldW ty30 (.t rfl) (.s (.s .z)) (.n (.stW ty30 (.t rfl) (.t rfl) (.s (.s (.s .z))) ?_)))
                              refine .nil ?_
                              refine .ret ?_
                              refine ⟨_, .r1 rfl (.cell ty30 rfl (.s (.s (.s .z)))), ?_⟩
                              refine ⟨_, .cons (.s (.s (.s (.s (.s .z))))) (.nil), ?_⟩
                              dsimp only at *
                              first | (have hh : kk = 2 := (by omega); subst hh) | (have hh : kk = 3 := (by omega); subst hh) | (have hh : kk = 4 := (by omega); subst hh) | (have hh : kk = 5 := (by omega); subst hh) | (have hh : kk = 6 := (by omega); subst hh) | (have hh : kk = 7 := (by omega); subst hh) | (have hh : kk = 8 := (by omega); subst hh) | (have hh : kk = 9 := (by omega); subst hh) | (have hh : kk = 10 := (by omega); subst hh) | (have hh : kk = 11 := (by omega); subst hh) | (have hh : kk = 12 := (by omega); subst hh) | (have hh : kk = 13 := (by omega); subst hh) | (have hh : kk = 14 := (by omega); subst hh) | (have hh : kk = 15 := (by omega); subst hh) | (have hh : kk = 16 := (by omega); subst hh) | (have hh : kk = 17 := (by omega); subst hh) | (have hh : kk = 18 := (by omega); subst hh) | (have hh : kk = 19 := (by omega); subst hh) | (have hh : kk = 20 := (by omega); subst hh) | (have hh : kk = 21 := (by omega); subst hh) | (have hh : kk = 22 := (by omega); subst hh) | (have hh : kk = 1 := (by omega); subst hh) | (exfalso; omega)
                              exact stepD_of ⟨by dsimp only; omega, by dsimp only; omega⟩ (by assumption) rfl (by first | exact zR | exact ⟨by dsimp only; omega, by dsimp only; omega⟩) (by first | exact zR | exact ⟨by dsimp only; omega, by dsimp only; omega⟩) (by first | exact zR | exact ⟨by dsimp only; omega, by dsimp only; omega⟩) (by first | exact zR | exact ⟨by dsimp only; omega, by dsimp only; omega⟩) (by first | exact zR | exact ⟨by dsimp only; omega, by dsimp only; omega⟩) (by first | exact zR | exact ⟨by dsimp only; omega, by dsimp only; omega⟩) (by first | exact zR | exact ⟨by dsimp only; omega, by dsimp only; omega⟩) (by first | assumption | (intro p hp; cases hp)) (by first | assumption | (dsimp only; omega) | (show ((0 : Nat) : Int) ≤ 2; decide)) (fun h => by first | exact Bool.noConfusion (show false = true from h) | rfl | exact (by decide : ∀ x ∈ ([⟨[97, 110, 110]⟩, ⟨[98, 111, 98]⟩, ⟨[100, 97, 110]⟩] : List Str), isLabel x = true) _ (List.getElem_mem _))
                            · refine .seq ?_
                              refine .region rfl ?_
                              refine .p (.eqlI (.t rfl) (.i rfl) (.p (.assign (.t rfl) ?_)))
                              refine .nil ?_
                              refine .condP (.t rfl) (fun hc140 => ?_) (fun hc140 => ?_)
                              · refine .skip ?_
                                refine .condP (.t rfl) (fun hc140y => ?_) (fun y => absurd hc140 y)
                                refine .region rfl ?_
                                refine .p (.move (.t rfl) (.h (.callM hG (Next_e _ _ _ (by first | assumption | exact deckNew_ok _) (by first | omega | (simp; done) | (simp; omega) | (simp at *; omega)) (by first | omega | (simp; done) | (simp; omega) | (simp at *; omega))) (.s (.s (.s (.s (.s .z))))) (.cons (.t rfl) (.cons (.i rfl) .nil)) (by rintro _ _ ⟨_, _, _, _, _, _, rfl⟩; exact ⟨_, rfl⟩) fun r145 B145 hr145 => ?_)))
                                obtain ⟨v145, d145, h0145, h1145, hd145, rfl, hB⟩ := hr145
                                cases hB
                                refine .p (.fldW G_api_Step.l3 fd30_3 rfl (.t rfl) (.n (.stF (fun y x => { x with N := y }) ty3 (.t rfl) (.t rfl) (.s (.s .z)) (fun _ _ => rfl) ?_)))
                                refine .nil ?_
                                refine .seq ?_
                                refine .region rfl ?_
                                refine .p (.ldW ty30 (.t rfl) (.s (.s .z)) (.n (.stW ty30 (.t rfl) (.t rfl) (.s (.s (.s .z))) ?_)))
                                refine .nil ?_
                                refine .ret ?_
                                refine ⟨_, .r1 rfl (.cell ty30 rfl (.s (.s (.s .z)))), ?_⟩
                                refine ⟨_, .cons (.s (.s (.s (.s (.s .z))))) (.nil), ?_⟩
                                dsimp only at *
                                first | (have hh : kk = 2 := (by omega); subst hh) | (have hh : kk = 3 := (by omega); subst hh) | (have hh : kk = 4 := (by omega); subst hh) | (have hh : kk = 5 := (by omega); subst hh) | (have hh : kk = 6 := (by omega); subst hh) | (have hh : kk = 7 := (by omega); subst hh) | (have hh : kk = 8 := (by omega); subst hh) | (have hh : kk = 9 := (by omega); subst hh) | (have hh : kk = 10 := (by omega); subst hh) | (have hh : kk = 11 := (by omega); subst hh) | (have hh : kk = 12 := (by omega); subst hh) | (have hh : kk = 13 := (by omega); subst hh) | (have hh : kk = 14 := (by omega); subst hh) | (have hh : kk = 15 := (by omega); subst hh) | (have hh : kk = 16 := (by omega); subst hh) | (have hh : kk = 17 := (by omega); subst hh) | (have hh : kk = 18 := (by omega); subst hh) | (have hh : kk = 19 := (by omega); subst hh) | (have hh : kk = 20 := (by omega); subst hh) | (have hh : kk = 21 := (by omega); subst hh) | (have hh : kk = 22 := (by omega); subst hh) | (have hh : kk = 1 := (by omega); subst hh) | (exfalso; omega)
                                exact stepD_of ⟨by dsimp only; omega, by dsimp only; omega⟩ (by assumption) rfl (by first | exact zR | exact ⟨by dsimp only; omega, by dsimp only; omega⟩) (by first | exact zR | exact ⟨by dsimp only; omega, by dsimp only; omega⟩) (by first | exact zR | exact ⟨by dsimp only; omega, by dsimp only; omega⟩) (by first | exact zR | exact ⟨by dsimp only; omega, by dsimp only; omega⟩) (by first | exact zR | exact ⟨by dsimp only; omega, by dsimp only; omega⟩) (by first | exact zR | exact ⟨by dsimp only; omega, by dsimp only; omega⟩) (by first | exact zR | exact ⟨by dsimp only; omega, by dsimp only; omega⟩) (by first | assumption | (intro p hp; cases hp)) (by first | assumption | (dsimp only; omega) | (show ((0 : Nat) : Int) ≤ 2; decide)) (fun h => by first | exact Bool.noConfusion (show false = true from h) | rfl | exact (by decide : ∀ x ∈ ([⟨[97, 110, 110]⟩, ⟨[98, 111, 98]⟩, ⟨[100, 97, 110]⟩] : List Str), isLabel x = true) _ (List.getElem_mem _))
                              · refine .region rfl ?_
                                refine .p (.eqlI (.t rfl) (.i rfl) (.p (.assign (.t rfl) ?_)))
                                refine .nil ?_
                                refine .condP (.t rfl) (fun hc140 => ?_) (fun hc140 => ?_)
                                · refine .region rfl ?_
                                  refine .p (.move (.t rfl) (.h (.callM hG (Next_e _ _ _ (by first | assumption | exact deckNew_ok _) (by first | omega | (simp; done) | (simp; omega) | (simp at *; omega)) (by first | omega | (simp; done) | (simp; omega) | (simp at *; omega))) (.s (.s (.s (.s (.s .z))))) (.cons (.t rfl) (.cons (.i rfl) .nil)) (by rintro _ _ ⟨_, _, _, _, _, _, rfl⟩; exact ⟨_, rfl⟩) fun r145 B145 hr145 => ?_)))
                                  obtain ⟨v145, d145, h0145, h1145, hd145, rfl, hB⟩ := hr145
                                  cases hB
                                  refine .p (.fldW G_api_Step.l3 fd30_3 rfl (.t rfl) (.n (.stF (fun y x => { x with N := y }) ty3 (.t rfl) (.t rfl) (.s (.s .z)) (fun _ _ => rfl) ?_)))
                                  refine .nil ?_
                                  refine .seq ?_
                                  refine .region rfl ?_
                                  refine .p (.ldW ty30 (.t rfl) (.s (.s .z)) (.n (.stW ty30 (.t rfl) (.t rfl) (.s (.s (.s .z))) ?_)))
                                  refine .nil ?_
                                  refine .ret ?_
                                  refine ⟨_, .r1 rfl (.cell ty30 rfl (.s (.s (.s .z)))), ?_⟩
                                  refine ⟨_, .cons (.s (.s (.s (.s (.s .z))))) (.nil), ?_⟩
                                  dsimp only at *
                                  first | (have hh : kk = 2 := (by omega); subst hh) | (have hh : kk = 3 := (by omega); subst hh) | (have hh : kk = 4 := (by omega); subst hh) | (have hh : kk = 5 := (by omega); subst hh) | (have hh : kk = 6 := (by omega); subst hh) | (have hh : kk = 7 := (by omega); subst hh) | (have hh : kk = 8 := (by omega); subst hh) | (have hh : kk = 9 := (by omega); subst hh) | (have hh : kk = 10 := (by omega); subst hh) | (have hh : kk = 11 := (by omega); subst hh) | (have hh : kk = 12 := (by omega); subst hh) | (have hh : kk = 13 := (by omega); subst hh) | (have hh : kk = 14 := (by omega); subst hh) | (have hh : kk = 15 := (by omega); subst hh) | (have hh : kk = 16 := (by omega); subst hh) | (have hh : kk = 17 := (by omega); subst hh) | (have hh : kk = 18 := (by omega); subst hh) | (have hh : kk = 19 := (by omega); subst hh) | (have hh : kk = 20 := (by omega); subst hh) | (have hh : kk = 21 := (by omega); subst hh) | (have hh : kk = 22 := (by omega); subst hh) | (have hh : kk = 1 := (by omega); subst hh) | (exfalso; omega)
                                  exact stepD_of ⟨by dsimp only; omega, by dsimp only; omega⟩ (by assumption) rfl (by first | exact zR | exact ⟨by dsimp only; omega, by dsimp only; omega⟩) (by first | exact zR | exact ⟨by dsimp only; omega, by dsimp only; omega⟩) (by first | exact zR | exact ⟨by dsimp only; omega, by dsimp only; omega⟩) (by first | exact zR | exact ⟨by dsimp only; omega, by dsimp only; omega⟩) (by first | exact zR | exact ⟨by dsimp only; omega, by dsimp only; omega⟩) (by first | exact zR | exact ⟨by dsimp only; omega, by dsimp only; omega⟩) (by first | exact zR | exact ⟨by dsimp only; omega, by dsimp only; omega⟩) (by first | assumption | (intro p hp; cases hp)) (by first | assumption | (dsimp only; omega) | (show ((0 : Nat) : Int) ≤ 2; decide)) (fun h => by first | exact Bool.noConfusion (show false = true from h) | rfl | exact (by decide : ∀ x ∈ ([⟨[97, 110, 110]⟩, ⟨[98, 111, 98]⟩, ⟨[100, 97, 110]⟩] : List Str), isLabel x = true) _ (List.getElem_mem _))
                                · refine .seq ?_
                                  refine .region rfl ?_
                                  refine .p (.eqlI (.t rfl) (.i rfl) (.p (.assign (.t rfl) ?_)))
                                  refine .nil ?_
                                  refine .condP (.t rfl) (fun hc147 => ?_) (fun hc147 => ?_)
                                  · refine .region rfl ?_
                                    refine .p (.move (.t rfl) (.h (.callM hG (Next_e _ _ _ (by first | assumption | exact deckNew_ok _) (by first | omega | (simp; done) | (simp; omega) | (simp at *; omega)) (by first | omega | (simp; done) | (simp; omega) | (simp at *; omega))) (.s (.s (.s (.s (.s .z))))) (.cons (.t rfl) (.cons (.i rfl) .nil)) (by rintro _ _ ⟨_, _, _, _, _, _, rfl⟩; exact ⟨_, rfl⟩) fun r150 B150 hr150 => ?_)))
                                    obtain ⟨v150, d150, h0150, h1150, hd150, rfl, hB⟩ := hr150
                                    cases hB
                                    refine .p (.fldW G_api_Step.l3 fd30_3 rfl (.t rfl) (.n (.stF (fun y x => { x with N := y }) ty3 (.t rfl) (.t rfl) (.s (.s .z)) (fun _ _ => rfl) ?_)))
                                    refine .nil ?_
                                    refine .seq ?_
                                    refine .region rfl ?_
                                    refine .p (.ldW ty30 (.t rfl) (.s (.s .z)) (.n (.stW ty30 (.t rfl) (.t rfl) (.s (.s (.s .z))) ?_)))
                                    refine .nil ?_
                                    refine .ret ?_
                                    refine ⟨_, .r1 rfl (.cell ty30 rfl (.s (.s (.s .z)))), ?_⟩
                                    refine ⟨_, .cons (.s (.s (.s (.s (.s .z))))) (.nil), ?_⟩
                                    dsimp only at *
                                    first | (have hh : kk = 2 := (by omega); subst hh) | (have hh : kk = 3 := (by omega); subst hh) | (have hh : kk = 4 := (by omega); subst hh) | (have hh : kk = 5 := (by omega); subst hh) | (have hh : kk = 6 := (by omega); subst hh) | (have hh : kk = 7 := (by omega); subst hh) | (have hh : kk = 8 := (by omega); subst hh) | (have hh : kk = 9 := (by omega); subst hh) | (have hh : kk = 10 := (by omega); subst hh) | (have hh : kk = 11 := (by omega); subst hh) | (have hh : kk = 12 := (by omega); subst hh) | (have hh : kk = 13 := (by omega); subst hh) | (have hh : kk = 14 := (by omega); subst hh) | (have hh : kk = 15 := (by omega); subst hh) | (have hh : kk = 16 := (by omega); subst hh) | (have hh : kk = 17 := (by omega); subst hh) | (have hh : kk = 18 := (by omega); subst hh) | (have hh : kk = 19 := (by omega); subst hh) | (have hh : kk = 20 := (by omega); subst hh) | (have hh : kk = 21 := (by omega); subst hh) | (have hh : kk = 22 := (by omega); subst hh) | (have hh : kk = 1 := (by omega); subst hh) | (exfalso; omega)
                                    exact stepD_of ⟨by dsimp only; omega, by dsimp only; omega⟩ (by assumption) rfl (by first | exact zR | exact ⟨by dsimp only; omega, by dsimp only; omega⟩) (by first | exact zR | exact ⟨by dsimp only; omega, by dsimp only; omega⟩) (by first | exact zR | exact ⟨by dsimp only; omega, by dsimp only; omega⟩) (by first | exact zR | exact ⟨by dsimp only; omega, by dsimp only; omega⟩) (by first | exact zR | exact ⟨by dsimp only; omega, by dsimp only; omega⟩) (by first | exact zR | exact ⟨by dsimp only; omega, by dsimp only; omega⟩) (by first | exact zR | exact ⟨by dsimp only; omega, by dsimp only; omega⟩) (by first | assumption | (intro p hp; cases hp)) (by first | assumption | (dsimp only; omega) | (show ((0 : Nat) : Int) ≤ 2; decide)) (fun h => by first | exact Bool.noConfusion (show false = true from h) | rfl | exact (by decide : ∀ x ∈ ([⟨[97, 110, 110]⟩, ⟨[98, 111, 98]⟩, ⟨[100, 97, 110]⟩] : List Str), isLabel x = true) _ (List.getElem_mem _))
                                  · refine .seq ?_
                                    refine .region rfl ?_
                                    refine .p (.eqlI (.t rfl) (.i rfl) (.p (.assign (.t rfl) ?_)))
                                    refine .nil ?_
                                    refine .condP (.t rfl) (fun hc152 => ?_) (fun hc152 => ?_)
                                    · refine .region rfl ?_
                                      refine .p (.move (.t rfl) (.p (.fldW G_api_Config.l2 fd56_2 rfl (.t rfl) (.p (.ldF (fun x => x.Gates) ty3 (.t rfl) (.s (.s (.s (.s .z)))) (fun _ => rfl) (.p (.sub (.t rfl) (.i rfl) (by first | omega | (simp; done) | (simp; omega) | (simp at *; omega)) (by first | omega | (simp; done) | (simp; omega) | (simp at *; omega)) (.h (.callM hG (Range_e _ _ _ _ (by first | assumption | exact deckNew_ok _) (by first | omega | (simp; done) | (simp; omega) | (simp at *; omega)) (by first | omega | (simp; done) | (simp; omega) | (simp at *; omega)) (by first | omega | (simp; done) | (simp; omega) | (simp at *; omega))) (.s (.s (.s (.s (.s .z))))) (.cons (.t rfl) (.cons (.i rfl) (.cons (.t rfl) .nil))) (by rintro _ _ ⟨_, _, _, _, _, _, rfl⟩; exact ⟨_, rfl⟩) fun r158 B158 hr158 => ?_)))))))))
                                      obtain ⟨v158, d158, h0158, h1158, hd158, rfl, hB⟩ := hr158
                                      cases hB
                                      refine .p (.move (.t rfl) (.h (.callM hG (Next_e _ _ _ (by first | assumption | exact deckNew_ok _) (by first | omega | (simp; done) | (simp; omega) | (simp at *; omega)) (by first | omega | (simp; done) | (simp; omega) | (simp at *; omega))) (.s (.s (.s (.s (.s .z))))) (.cons (.t rfl) (.cons (.i rfl) .nil)) (by rintro _ _ ⟨_, _, _, _, _, _, rfl⟩; exact ⟨_, rfl⟩) fun r160 B160 hr160 => ?_)))
                                      obtain ⟨v160, d160, h0160, h1160, hd160, rfl, hB⟩ := hr160
                                      cases hB
                                      refine .p (.fldW G_api_Step.l1 fd30_1 rfl (.t rfl) (.n (.stF (fun y x => { x with A := y }) ty3 (.t rfl) (.t rfl) (.s (.s .z)) (fun _ _ => rfl) (.p (.fldW G_api_Step.l3 fd30_3 rfl (.t rfl) (.n (.stF (fun y x => { x with N := y }) ty3 (.t rfl) (.t rfl) (.s (.s .z)) (fun _ _ => rfl) ?_)))))))
                                      refine .nil ?_
                                      refine .seq ?_
                                      refine .region rfl ?_
                                      refine .p (.ldW ty30 (.t rfl) (.s (.s .z)) (.n (.stW ty30 (.t rfl) (.t rfl) (.s (.s (.s .z))) ?_)))
                                      refine .nil ?_
                                      refine .ret ?_
                                      refine ⟨_, .r1 rfl (.cell ty30 rfl (.s (.s (.s .z)))), ?_⟩
                                      refine ⟨_, .cons (.s (.s (.s (.s (.s .z))))) (.nil), ?_⟩
                                      dsimp only at *
                                      first | (have hh : kk = 2 := (by omega); subst hh) | (have hh : kk = 3 := (by omega); subst hh) | (have hh : kk = 4 := (by omega); subst hh) | (have hh : kk = 5 := (by omega); subst hh) | (have hh : kk = 6 := (by omega); subst hh) | (have hh : kk = 7 := (by omega); subst hh) | (have hh : kk = 8 := (by omega); subst hh) | (have hh : kk = 9 := (by omega); subst hh) | (have hh : kk = 10 := (by omega); subst hh) | (have hh : kk = 11 := (by omega); subst hh) | (have hh : kk = 12 := (by omega); subst hh) | (have hh : kk = 13 := (by omega); subst hh) | (have hh : kk = 14 := (by omega); subst hh) | (have hh : kk = 15 := (by omega); subst hh) | (have hh : kk = 16 := (by omega); subst hh) | (have hh : kk = 17 := (by omega); subst hh) | (have hh : kk = 18 := (by omega); subst hh) | (have hh : kk = 19 := (by omega); subst hh) | (have hh : kk = 20 := (by omega); subst hh) | (have hh : kk = 21 := (by omega); subst hh) | (have hh : kk = 22 := (by omega); subst hh) | (have hh : kk = 1 := (by omega); subst hh) | (exfalso; omega)
                                      exact stepD_of ⟨by dsimp only; omega, by dsimp only; omega⟩ (by assumption) rfl (by first | exact zR | exact ⟨by dsimp only; omega, by dsimp only; omega⟩) (by first | exact zR | exact ⟨by dsimp only; omega, by dsimp only; omega⟩) (by first | exact zR | exact ⟨by dsimp only; omega, by dsimp only; omega⟩) (by first | exact zR | exact ⟨by dsimp only; omega, by dsimp only; omega⟩) (by first | exact zR | exact ⟨by dsimp only; omega, by dsimp only; omega⟩) (by first | exact zR | exact ⟨by dsimp only; omega, by dsimp only; omega⟩) (by first | exact zR | exact ⟨by dsimp only; omega, by dsimp only; omega⟩) (by first | assumption | (intro p hp; cases hp)) (by first | assumption | (dsimp only; omega) | (show ((0 : Nat) : Int) ≤ 2; decide)) (fun h => by first | exact Bool.noConfusion (show false = true from h) | rfl | exact (by decide : ∀ x ∈ ([⟨[97, 110, 110]⟩, ⟨[98, 111, 98]⟩, ⟨[100, 97, 110]⟩] : List Str), isLabel x = true) _ (List.getElem_mem _))
                                    · refine .seq ?_
                                      refine .region rfl ?_
                                      refine .p (.eqlI (.t rfl) (.i rfl) (.p (.assign (.t rfl) ?_)))
                                      refine .nil ?_
                                      refine .condP (.t rfl) (fun hc163 => ?_) (fun hc163 => ?_)
                                      · refine .region rfl ?_
                                        refine .p (.move (.t rfl) (.p (.move (.t rfl) (.h (.callM hG (Next_e _ _ _ (by first | assumption | exact deckNew_ok _) (by first | omega | (simp; done) | (simp; omega) | (simp at *; omega)) (by first | omega | (simp; done) | (simp; omega) | (simp at *; omega))) (.s (.s (.s (.s (.s .z))))) (.cons (.t rfl) (.cons (.i rfl) .nil)) (by rintro _ _ ⟨_, _, _, _, _, _, rfl⟩; exact ⟨_, rfl⟩) fun r167 B167 hr167 => ?_)))))
                                        obtain ⟨v167, d167, h0167, h1167, hd167, rfl, hB⟩ := hr167
                                        cases hB
                                        refine .p (.fldW G_api_Step.l1 fd30_1 rfl (.t rfl) (.n (.stF (fun y x => { x with A := y }) ty3 (.t rfl) (.t rfl) (.s (.s .z)) (fun _ _ => rfl) (.p (.fldW G_api_Step.l2 fd30_2 rfl (.t rfl) (.n (.stF (fun y x => { x with B := y }) ty3 (.t rfl) (.t rfl) (.s (.s .z)) (fun _ _ => rfl) ?_)))))))
                                        refine .nil ?_
                                        refine .seq ?_
                                        refine .region rfl ?_
                                        refine .p (.ldW ty30 (.t rfl) (.s (.s .z)) (.n (.stW ty30 (.t rfl) (.t rfl) (.s (.s (.s .z))) ?_)))
                                        refine .nil ?_
                                        refine .ret ?_
                                        refine ⟨_, .r1 rfl (.cell ty30 rfl (.s (.s (.s .z)))), ?_⟩
                                        refine ⟨_, .cons (.s (.s (.s (.s (.s .z))))) (.nil), ?_⟩
                                        dsimp only at *
                                        first | (have hh : kk = 2 := (by omega); subst hh) | (have hh : kk = 3 := (by omega); subst hh) | (have hh : kk = 4 := (by omega); subst hh) | (have hh : kk = 5 := (by omega); subst hh) | (have hh : kk = 6 := (by omega); subst hh) | (have hh : kk = 7 := (by omega); subst hh) | (have hh : kk = 8 := (by omega); subst hh) | (have hh : kk = 9 := (by omega); subst hh) | (have hh : kk = 10 := (by omega); subst hh) | (have hh : kk = 11 := (by omega); subst hh) | (have hh : kk = 12 := (by omega); subst hh) | (have hh : kk = 13 := (by omega); subst hh) | (have hh : kk = 14 := (by omega); subst hh) | (have hh : kk = 15 := (by omega); subst hh) | (have hh : kk = 16 := (by omega); subst hh) | (have hh : kk = 17 := (by omega); subst hh) | (have hh : kk = 18 := (by omega); subst hh) | (have hh : kk = 19 := (by omega); subst hh) | (have hh : kk = 20 := (by omega); subst hh) | (have hh : kk = 21 := (by omega); subst hh) | (have hh : kk = 22 := (by omega); subst hh) | (have hh : kk = 1 := (by omega); subst hh) | (exfalso; omega)
                                        exact stepD_of ⟨by dsimp only; omega, by dsimp only; omega⟩ (by assumption) rfl (by first | exact zR | exact ⟨by dsimp only; omega, by dsimp only; omega⟩) (by first | exact zR | exact ⟨by dsimp only; omega, by dsimp only; omega⟩) (by first | exact zR | exact ⟨by dsimp only; omega, by dsimp only; omega⟩) (by first | exact zR | exact ⟨by dsimp only; omega, by dsimp only; omega⟩) (by first | exact zR | exact ⟨by dsimp only; omega, by dsimp only; omega⟩) (by first | exact zR | exact ⟨by dsimp only; omega, by dsimp only; omega⟩) (by first | exact zR | exact ⟨by dsimp only; omega, by dsimp only; omega⟩) (by first | assumption | (intro p hp; cases hp)) (by first | assumption | (dsimp only; omega) | (show ((0 : Nat) : Int) ≤ 2; decide)) (fun h => by first | exact Bool.noConfusion (show false = true from h) | rfl | exact (by decide : ∀ x ∈ ([⟨[97, 110, 110]⟩, ⟨[98, 111, 98]⟩, ⟨[100, 97, 110]⟩] : List Str), isLabel x = true) _ (List.getElem_mem _))
                                      · refine .seq ?_
                                        refine .region rfl ?_
                                        refine .p (.eqlI (.t rfl) (.i rfl) (.p (.assign (.t rfl) ?_)))
                                        refine .nil ?_
                                        refine .condP (.t rfl) (fun hc170 => ?_) (fun hc170 => ?_)
                                        · refine .drawCF [false, false, true, false, false, true] (by kernel_rfl) 14 [[], [], [(173, 1)], [], [(175, 3)], [], [], [(178, 6), (172, 0)], [], [(179, 8), (174, 2)], [], [(180, 10), (176, 4)], [], [(181, 12), (177, 5)]] [2, 4, 7, 9, 11, 13] rfl (by kernel_rfl) rfl (by kernel_rfl) (by decide) ?_
                                          refine ⟨_, fun H => OpP.move (.t rfl) rfl, ?_⟩
                                          refine ⟨_, fun H => OpP.move (.t rfl) rfl, ?_⟩
                                          refine .inl ?_
                                          refine ⟨_, fun H => OpP.move (.t rfl) rfl, ?_⟩
                                          refine .inl ?_
                                          refine ⟨_, fun H => OpP.ldW ty28 (.t rfl) (Hole.app .z) rfl, ?_⟩
                                          refine ⟨_, fun H => OpP.fldW G_api_Step.l1 fd30_1 rfl (.t rfl) rfl, ?_⟩
                                          refine .inl ?_
                                          refine ⟨_, fun H => OpP.fldW G_api_Step.l2 fd30_2 rfl (.t rfl) rfl, ?_⟩
                                          refine .inl ?_
                                          refine ⟨_, fun H => OpP.fldW G_api_Step.l4 fd30_4 rfl (.t rfl) rfl, ?_⟩
                                          refine .inl ?_
                                          refine ⟨_, fun H => OpP.fldW G_api_Step.l7 fd30_7 rfl (.t rfl) rfl, ?_⟩
                                          refine .inl ?_
                                          refine ⟨⟨([], fun k => List.getD [(true, .none_), (true, .none_), _, (true, .none_), (true, .none_), _] k (true, .none_)), rfl⟩, ?_⟩
                                          refine OpH.callM hG (Next_e _ _ _ (by first | assumption | exact deckNew_ok _) (by first | omega | (simp; done) | (simp; omega) | (simp at *; omega)) (by first | omega | (simp; done) | (simp; omega) | (simp at *; omega))) (.s (.s (.s (.s (.s .z))))) (.cons (.t rfl) (.cons (.i rfl) .nil)) (by rintro _ _ ⟨_, _, _, _, _, _, rfl⟩; exact ⟨_, rfl⟩) fun r174 B174 hr174 => ?_
                                          obtain ⟨v174, d174, h0174, h1174, hd174, rfl, hB⟩ := hr174
                                          cases hB
                                          refine ⟨⟨([], fun k => List.getD [(true, .none_), (true, .none_), _, (true, .none_), (true, .none_), _] k (true, .none_)), rfl⟩, ?_⟩
                                          refine OpH.callM hG (Wide_deck_c _ _ _ _ (by assumption) (by decide) (by decide) (by decide)) (.s (.s (.s (.s (.s .z))))) (.cons (.t rfl) (.cons (.i rfl) (.cons (.s [97, 110, 110] (by decide) (by decide)) .nil))) (by rintro _ _ ⟨_, _, _, _, _, _, rfl⟩; exact ⟨_, rfl⟩) fun r176 B176 hr176 => ?_
                                          obtain ⟨l176, hl176, hp176, d176, hd176, rfl, hB⟩ := hr176
                                          cases hB
                                          refine ⟨⟨([], fun k => List.getD [(true, .none_), (true, .none_), _, (true, .none_), (true, .none_), _] k (true, .none_)), rfl⟩, ?_⟩
                                          refine OpH.stF (fun y x => { x with A := y }) ty3 (.t rfl) (.t rfl) (.s (.s .z)) (fun _ _ => rfl) ?_
                                          refine ⟨⟨([], fun k => List.getD [(true, .none_), (true, .none_), _, (true, .none_), (true, .none_), _] k (true, .none_)), rfl⟩, ?_⟩
                                          refine OpH.stF (fun y x => { x with B := y }) ty3 (.t rfl) (.t rfl) (.s (.s .z)) (fun _ _ => rfl) ?_
                                          refine ⟨⟨([], fun k => List.getD [(true, .none_), (true, .none_), _, (true, .none_), (true, .none_), _] k (true, .none_)), rfl⟩, ?_⟩
                                          refine OpH.stF (fun y x => { x with Predicates := y }) ty24 (.t rfl) (.t rfl) (.s (.s .z)) (fun _ _ => rfl) ?_
                                          refine ⟨⟨([], fun k => List.getD [(true, .none_), (true, .none_), _, (true, .none_), (true, .none_), _] k (true, .none_)), rfl⟩, ?_⟩
                                          refine OpH.stF (fun y x => { x with Context := y }) ty28 (.t rfl) (.t rfl) (.s (.s .z)) (fun _ _ => rfl) ?_
                                          refine ⟨⟨([], fun k => List.getD [(true, .none_), (true, .none_), _, (true, .none_), (true, .none_), _] k (true, .none_)), rfl⟩, ?_⟩
                                          show wpB _ _ _ _ _ _ ((181, _) :: (180, _) :: (179, _) :: (178, _) :: (177, _) :: (176, _) :: (175, _) :: (174, _) :: (173, _) :: (172, _) :: _) _
                                          refine .nil ?_
                                          refine .seq ?_
                                          refine .region rfl ?_
                                          refine .p (.ldW ty30 (.t rfl) (.s (.s .z)) (.n (.stW ty30 (.t rfl) (.t rfl) (.s (.s (.s .z))) ?_)))
                                          refine .nil ?_
                                          refine .ret ?_
                                          refine ⟨_, .r1 rfl (.cell ty30 rfl (.s (.s (.s .z)))), ?_⟩
                                          refine ⟨_, .cons (.s (.s (.s (.s (.s .z))))) (.nil), ?_⟩
                                          dsimp only at *
                                          first | (have hh : kk = 2 := (by omega); subst hh) | (have hh : kk = 3 := (by omega); subst hh) | (have hh : kk = 4 := (by omega); subst hh) | (have hh : kk = 5 := (by omega); subst hh) | (have hh : kk = 6 := (by omega); subst hh) | (have hh : kk = 7 := (by omega); subst hh) | (have hh : kk = 8 := (by omega); subst hh) | (have hh : kk = 9 := (by omega); subst hh) | (have hh : kk = 10 := (by omega); subst hh) | (have hh : kk = 11 := (by omega); subst hh) | (have hh : kk = 12 := (by omega); subst hh) | (have hh : kk = 13 := (by omega); subst hh) | (have hh : kk = 14 := (by omega); subst hh) | (have hh : kk = 15 := (by omega); subst hh) | (have hh : kk = 16 := (by omega); subst hh) | (have hh : kk = 17 := (by omega); subst hh) | (have hh : kk = 18 := (by omega); subst hh) | (have hh : kk = 19 := (by omega); subst hh) | (have hh : kk = 20 := (by omega); subst hh) | (have hh : kk = 21 := (by omega); subst hh) | (have hh : kk = 22 := (by omega); subst hh) | (have hh : kk = 1 := (by omega); subst hh) | (exfalso; omega)
                                          exact stepD_of ⟨by dsimp only; omega, by dsimp only; omega⟩ (by assumption) rfl (by first | exact zR | exact ⟨by dsimp only; omega, by dsimp only; omega⟩) (by first | exact zR | exact ⟨by dsimp only; omega, by dsimp only; omega⟩) (by first | exact zR | exact ⟨by dsimp only; omega, by dsimp only; omega⟩) (by first | exact zR | exact ⟨by dsimp only; omega, by dsimp only; omega⟩) (by first | exact zR | exact ⟨by dsimp only; omega, by dsimp only; omega⟩) (by first | exact zR | exact ⟨by dsimp only; omega, by dsimp only; omega⟩) (by first | exact zR | exact ⟨by dsimp only; omega, by dsimp only; omega⟩) (by first | assumption | (intro p hp; cases hp)) (by first | assumption | (dsimp only; omega) | (show ((0 : Nat) : Int) ≤ 2; decide)) (fun h => by first | exact Bool.noConfusion (show false = true from h) | rfl | exact (by decide : ∀ x ∈ ([⟨[97, 110, 110]⟩, ⟨[98, 111, 98]⟩, ⟨[100, 97, 110]⟩] : List Str), isLabel x = true) _ (List.getElem_mem _))
                                        · refine .seq ?_
                                          refine .region rfl ?_
                                          refine .p (.eqlI (.t rfl) (.i rfl) (.p (.assign (.t rfl) ?_)))
                                          refine .nil ?_
                                          refine .condP (.t rfl) (fun hc182 => ?_) (fun hc182 => ?_)
                                          · refine .drawCF [false, false, true, false, false, true] (by kernel_rfl) 10 [[], [], [(185, 1)], [], [], [(188, 4), (184, 0)], [], [(189, 6), (186, 2)], [], [(190, 8), (187, 3)]] [2, 5, 7, 9] rfl (by kernel_rfl) rfl (by kernel_rfl) (by decide) ?_
                                            refine ⟨_, fun H => OpP.move (.t rfl) rfl, ?_⟩
                                            refine ⟨_, fun H => OpP.move (.t rfl) rfl, ?_⟩
                                            refine .inl ?_
                                            refine ⟨_, fun H => OpP.ldW ty28 (.t rfl) (Hole.app .z) rfl, ?_⟩
                                            refine ⟨_, fun H => OpP.fldW G_api_Step.l1 fd30_1 rfl (.t rfl) rfl, ?_⟩
                                            refine .inl ?_
                                            refine ⟨_, fun H => OpP.fldW G_api_Step.l2 fd30_2 rfl (.t rfl) rfl, ?_⟩
                                            refine .inl ?_
                                            refine ⟨_, fun H => OpP.fldW G_api_Step.l7 fd30_7 rfl (.t rfl) rfl, ?_⟩
                                            refine .inl ?_
                                            refine ⟨⟨([], fun k => List.getD [(true, .none_), (true, .none_), _, (true, .none_), (true, .none_), _] k (true, .none_)), rfl⟩, ?_⟩
                                            refine OpH.callM hG (Next_e _ _ _ (by first | assumption | exact deckNew_ok _) (by first | omega | (simp; done) | (simp; omega) | (simp at *; omega)) (by first | omega | (simp; done) | (simp; omega) | (simp at *; omega))) (.s (.s (.s (.s (.s .z))))) (.cons (.t rfl) (.cons (.i rfl) .nil)) (by rintro _ _ ⟨_, _, _, _, _, _, rfl⟩; exact ⟨_, rfl⟩) fun r186 B186 hr186 => ?_
                                            obtain ⟨v186, d186, h0186, h1186, hd186, rfl, hB⟩ := hr186
                                            cases hB
                                            refine ⟨⟨([], fun k => List.getD [(true, .none_), (true, .none_), _, (true, .none_), (true, .none_), _] k (true, .none_)), rfl⟩, ?_⟩
                                            refine OpH.stF (fun y x => { x with A := y }) ty3 (.t rfl) (.t rfl) (.s (.s .z)) (fun _ _ => rfl) ?_
                                            refine ⟨⟨([], fun k => List.getD [(true, .none_), (true, .none_), _, (true, .none_), (true, .none_), _] k (true, .none_)), rfl⟩, ?_⟩
                                            refine OpH.stF (fun y x => { x with B := y }) ty3 (.t rfl) (.t rfl) (.s (.s .z)) (fun _ _ => rfl) ?_
                                            refine ⟨⟨([], fun k => List.getD [(true, .none_), (true, .none_), _, (true, .none_), (true, .none_), _] k (true, .none_)), rfl⟩, ?_⟩
                                            refine OpH.stF (fun y x => { x with Context := y }) ty28 (.t rfl) (.t rfl) (.s (.s .z)) (fun _ _ => rfl) ?_
                                            refine ⟨⟨([], fun k => List.getD [(true, .none_), (true, .none_), _, (true, .none_), (true, .none_), _] k (true, .none_)), rfl⟩, ?_⟩
                                            show wpB _ _ _ _ _ _ ((190, _) :: (189, _) :: (188, _) :: (187, _) :: (186, _) :: (185, _) :: (184, _) :: _) _
                                            refine .nil ?_
                                            refine .seq ?_
                                            refine .region rfl ?_
                                            refine .p (.ldW ty30 (.t rfl) (.s (.s .z)) (.n (.stW ty30 (.t rfl) (.t rfl) (.s (.s (.s .z))) ?_)))
                                            refine .nil ?_
                                            refine .ret ?_
                                            refine ⟨_, .r1 rfl (.cell ty30 rfl (.s (.s (.s .z)))), ?_⟩
                                            refine ⟨_, .cons (.s (.s (.s (.s (.s .z))))) (.nil), ?_⟩
                                            dsimp only at *
                                            first | (have hh : kk = 2 := (by omega); subst hh) | (have hh : kk = 3 := (by omega); subst hh) | (have hh : kk = 4 := (by omega); subst hh) | (have hh : kk = 5 := (by omega); subst hh) | (have hh : kk = 6 := (by omega); subst hh) | (have hh : kk = 7 := (by omega); subst hh) | (have hh : kk = 8 := (by omega); subst hh) | (have hh : kk = 9 := (by omega); subst hh) | (have hh : kk = 10 := (by omega); subst hh) | (have hh : kk = 11 := (by omega); subst hh) | (have hh : kk = 12 := (by omega); subst hh) | (have hh : kk = 13 := (by omega); subst hh) | (have hh : kk = 14 := (by omega); subst hh) | (have hh : kk = 15 := (by omega); subst hh) | (have hh : kk = 16 := (by omega); subst hh) | (have hh : kk = 17 := (by omega); subst hh) | (have hh : kk = 18 := (by omega); subst hh) | (have hh : kk = 19 := (by omega); subst hh) | (have hh : kk = 20 := (by omega); subst hh) | (have hh : kk = 21 := (by omega); subst hh) | (have hh : kk = 22 := (by omega); subst hh) | (have hh : kk = 1 := (by omega); subst hh) | (exfalso; omega)
                                            exact stepD_of ⟨by dsimp only; omega, by dsimp only; omega⟩ (by assumption) rfl (by first | exact zR | exact ⟨by dsimp only; omega, by dsimp only; omega⟩) (by first | exact zR | exact ⟨by dsimp only; omega, by dsimp only; omega⟩) (by first | exact zR | exact ⟨by dsimp only; omega, by dsimp only; omega⟩) (by first | exact zR | exact ⟨by dsimp only; omega, by dsimp only; omega⟩) (by first | exact zR | exact ⟨by dsimp only; omega, by dsimp only; omega⟩) (by first | exact zR | exact ⟨by dsimp only; omega, by dsimp only; omega⟩) (by first | exact zR | exact ⟨by dsimp only; omega, by dsimp only; omega⟩) (by first | assumption | (intro p hp; cases hp)) (by first | assumption | (dsimp only; omega) | (show ((0 : Nat) : Int) ≤ 2; decide)) (fun h => by first | exact Bool.noConfusion (show false = true from h) | rfl | exact (by decide : ∀ x ∈ ([⟨[97, 110, 110]⟩, ⟨[98, 111, 98]⟩, ⟨[100, 97, 110]⟩] : List Str), isLabel x = true) _ (List.getElem_mem _))
                                          · refine .seq ?_
                                            refine .region rfl ?_
                                            refine .p (.eqlI (.t rfl) (.i rfl) (.p (.assign (.t rfl) ?_)))
                                            refine .nil ?_
                                            refine .condP (.t rfl) (fun hc191 => ?_) (fun hc191 => ?_)
                                            · refine .region rfl ?_
                                              refine .p (.move (.t rfl) (.p (.move (.t rfl) (.h (.callM hG (Next_e _ _ _ (by first | assumption | exact deckNew_ok _) (by first | omega | (simp; done) | (simp; omega) | (simp at *; omega)) (by first | omega | (simp; done) | (simp; omega) | (simp at *; omega))) (.s (.s (.s (.s (.s .z))))) (.cons (.t rfl) (.cons (.i rfl) .nil)) (by rintro _ _ ⟨_, _, _, _, _, _, rfl⟩; exact ⟨_, rfl⟩) fun r195 B195 hr195 => ?_)))))
                                              obtain ⟨v195, d195, h0195, h1195, hd195, rfl, hB⟩ := hr195
                                              cases hB
                                              refine .p (.move (.t rfl) (.h (.callM hG (Next_e _ _ _ (by first | assumption | exact deckNew_ok _) (by first | omega | (simp; done) | (simp; omega) | (simp at *; omega)) (by first | omega | (simp; done) | (simp; omega) | (simp at *; omega))) (.s (.s (.s (.s (.s .z))))) (.cons (.t rfl) (.cons (.i rfl) .nil)) (by rintro _ _ ⟨_, _, _, _, _, _, rfl⟩; exact ⟨_, rfl⟩) fun r197 B197 hr197 => ?_)))
                                              obtain ⟨v197, d197, h0197, h1197, hd197, rfl, hB⟩ := hr197
                                              cases hB
                                              refine .p (.fldW G_api_Step.l1 fd30_1 rfl (.t rfl) (.n (.stF (fun y x => { x with A := y }) ty3 (.t rfl) (.t rfl) (.s (.s .z)) (fun _ _ => rfl) (.p (.fldW G_api_Step.l2 fd30_2 rfl (.t rfl) (.n (.stF (fun y x => { x with B := y }) ty3 (.t rfl) (.t rfl) (.s (.s .z)) (fun _ _ => rfl) (.p (.fldW G_api_Step.l3 fd30_3 rfl (.t rfl) (.n (.stF (fun y x => { x with N := y }) ty3 (.t rfl) (.t rfl) (.s (.s .z)) (fun _ _ => rfl) ?_)))))))))))
                                              refine .nil ?_
                                              refine .seq ?_
                                              refine .region rfl ?_
                                              refine .p (.ldW ty30 (.t rfl) (.s (.s .z)) (.n (.stW ty30 (.t rfl) (.t rfl) (.s (.s (.s .z))) ?_)))
                                              refine .nil ?_
                                              refine .ret ?_
                                              refine ⟨_, .r1 rfl (.cell ty30 rfl (.s (.s (.s .z)))), ?_⟩
                                              refine ⟨_, .cons (.s (.s (.s (.s (.s .z))))) (.nil), ?_⟩
                                              dsimp only at *
                                              first | (have hh : kk = 2 := (by omega); subst hh) | (have hh : kk = 3 := (by omega); subst hh) | (have hh : kk = 4 := (by omega); subst hh) | (have hh : kk = 5 := (by omega); subst hh) | (have hh : kk = 6 := (by omega); subst hh) | (have hh : kk = 7 := (by omega); subst hh) | (have hh : kk = 8 := (by omega); subst hh) | (have hh : kk = 9 := (by omega); subst hh) | (have hh : kk = 10 := (by omega); subst hh) | (have hh : kk = 11 := (by omega); subst hh) | (have hh : kk = 12 := (by omega); subst hh) | (have hh : kk = 13 := (by omega); subst hh) | (have hh : kk = 14 := (by omega); subst hh) | (have hh : kk = 15 := (by omega); subst hh) | (have hh : kk = 16 := (by omega); subst hh) | (have hh : kk = 17 := (by omega); subst hh) | (have hh : kk = 18 := (by omega); subst hh) | (have hh : kk = 19 := (by omega); subst hh) | (have hh : kk = 20 := (by omega); subst hh) | (have hh : kk = 21 := (by omega); subst hh) | (have hh : kk = 22 := (by omega); subst hh) | (have hh : kk = 1 := (by omega); subst hh) | (exfalso; omega)
                                              exact stepD_of ⟨by dsimp only; omega, by dsimp only; omega⟩ (by assumption) rfl (by first | exact zR | exact ⟨by dsimp only; omega, by dsimp only; omega⟩) (by first | exact zR | exact ⟨by dsimp only; omega, by dsimp only; omega⟩) (by first | exact zR | exact ⟨by dsimp only; omega, by dsimp only; omega⟩) (by first | exact zR | exact ⟨by dsimp only; omega, by dsimp only; omega⟩) (by first | exact zR | exact ⟨by dsimp only; omega, by dsimp only; omega⟩) (by first | exact zR | exact ⟨by dsimp only; omega, by dsimp only; omega⟩) (by first | exact zR | exact ⟨by dsimp only; omega, by dsimp only; omega⟩) (by first | assumption | (intro p hp; cases hp)) (by first | assumption | (dsimp only; omega) | (show ((0 : Nat) : Int) ≤ 2; decide)) (fun h => by first | exact Bool.noConfusion (show false = true from h) | rfl | exact (by decide : ∀ x ∈ ([⟨[97, 110, 110]⟩, ⟨[98, 111, 98]⟩, ⟨[100, 97, 110]⟩] : List Str), isLabel x = true) _ (List.getElem_mem _))
                                            · refine .skip ?_
                                              refine .seq ?_
                                              refine .region rfl ?_
                                              refine .p (.ldW ty30 (.t rfl) (.s (.s .z)) (.n (.stW ty30 (.t rfl) (.t rfl) (.s (.s (.s .z))) ?_)))
                                              refine .nil ?_
                                              refine .ret ?_
                                              refine ⟨_, .r1 rfl (.cell ty30 rfl (.s (.s (.s .z)))), ?_⟩
                                              refine ⟨_, .cons (.s (.s (.s (.s (.s .z))))) (.nil), ?_⟩
                                              dsimp only at *
                                              first | (have hh : kk = 2 := (by omega); subst hh) | (have hh : kk = 3 := (by omega); subst hh) | (have hh : kk = 4 := (by omega); subst hh) | (have hh : kk = 5 := (by omega); subst hh) | (have hh : kk = 6 := (by omega); subst hh) | (have hh : kk = 7 := (by omega); subst hh) | (have hh : kk = 8 := (by omega); subst hh) | (have hh : kk = 9 := (by omega); subst hh) | (have hh : kk = 10 := (by omega); subst hh) | (have hh : kk = 11 := (by omega); subst hh) | (have hh : kk = 12 := (by omega); subst hh) | (have hh : kk = 13 := (by omega); subst hh) | (have hh : kk = 14 := (by omega); subst hh) | (have hh : kk = 15 := (by omega); subst hh) | (have hh : kk = 16 := (by omega); subst hh) | (have hh : kk = 17 := (by omega); subst hh) | (have hh : kk = 18 := (by omega); subst hh) | (have hh : kk = 19 := (by omega); subst hh) | (have hh : kk = 20 := (by omega); subst hh) | (have hh : kk = 21 := (by omega); subst hh) | (have hh : kk = 22 := (by omega); subst hh) | (have hh : kk = 1 := (by omega); subst hh) | (exfalso; omega)
                                              exact stepD_of ⟨by dsimp only; omega, by dsimp only; omega⟩ (by assumption) rfl (by first | exact zR | exact ⟨by dsimp only; omega, by dsimp only; omega⟩) (by first | exact zR | exact ⟨by dsimp only; omega, by dsimp only; omega⟩) (by first | exact zR | exact ⟨by dsimp only; omega, by dsimp only; omega⟩) (by first | exact zR | exact ⟨by dsimp only; omega, by dsimp only; omega⟩) (by first | exact zR | exact ⟨by dsimp only; omega, by dsimp only; omega⟩) (by first | exact zR | exact ⟨by dsimp only; omega, by dsimp only; omega⟩) (by first | exact zR | exact ⟨by dsimp only; omega, by dsimp only; omega⟩) (by first | assumption | (intro p hp; cases hp)) (by first | assumption | (dsimp only; omega) | (show ((0 : Nat) : Int) ≤ 2; decide)) (fun h => by first | exact Bool.noConfusion (show false = true from h) | rfl | exact (by decide : ∀ x ∈ ([⟨[97, 110, 110]⟩, ⟨[98, 111, 98]⟩, ⟨[100, 97, 110]⟩] : List Str), isLabel x = true) _ (List.getElem_mem _))
  · refine .skip ?_
    refine .seq ?_
    obtain ⟨kk, rfl⟩ : ∃ k, k = v10 := ⟨_, rfl⟩
    refine .region rfl ?_
    refine .p (.move (.t rfl) (.h (.callM hG (Next_e _ _ _ (by first | assumption | exact deckNew_ok _) (by first | omega | (simp; done) | (simp; omega) | (simp at *; omega)) (by first | omega | (simp; done) | (simp; omega) | (simp at *; omega))) (.s (.s (.s .z))) (.cons (.t rfl) (.cons (.i rfl) .nil)) (by rintro _ _ ⟨_, _, _, _, _, _, rfl⟩; exact ⟨_, rfl⟩) fun r22 B22 hr22 => ?_)))
    obtain ⟨v22, d22, h022, h122, hd22, rfl, hB⟩ := hr22
    cases hB
    refine .p (.move (.t rfl) (.h (.callM hG (Next_e _ _ _ (by first | assumption | exact deckNew_ok _) (by first | omega | (simp; done) | (simp; omega) | (simp at *; omega)) (by first | omega | (simp; done) | (simp; omega) | (simp at *; omega))) (.s (.s (.s .z))) (.cons (.t rfl) (.cons (.i rfl) .nil)) (by rintro _ _ ⟨_, _, _, _, _, _, rfl⟩; exact ⟨_, rfl⟩) fun r24 B24 hr24 => ?_)))
    obtain ⟨v24, d24, h024, h124, hd24, rfl, hB⟩ := hr24
    cases hB
    refine .p (.bS3 G_api_Context.l0 G_api_Context.l1 G_api_Context.l3 rfl ty28 fo28 (fun c0 c1 c3 => (⟨c0, c1, 0, c3⟩ : G_api_Context)) (fun _ _ _ => rfl) rfl rfl rfl rfl (.t rfl) (.t rfl) (.s [97, 110, 110] (by decide) (by decide)) (.h (.alloc ty28 fun b6 => .n (.stW ty28 (.t rfl) (.t rfl) .z ?_))))
    refine .nil ?_
    refine .seq ?_
    refine .drawCF [false, false, false, false, true] (by kernel_rfl) 10 [[], [], [(27, 1)], [(26, 0), (28, 2)], [], [], [(31, 5)], [(30, 4), (32, 6)], [(29, 3)], [(33, 7)]] [3, 7, 8, 9] rfl (by kernel_rfl) rfl (by kernel_rfl) (by decide) ?_
    refine ⟨_, fun H => OpP.move (.t rfl) rfl, ?_⟩
    refine ⟨_, fun H => OpP.fldW G_api_Config.l2 fd56_2 rfl (.t rfl) rfl, ?_⟩
    refine ⟨_, fun H => OpP.ldF (fun x => x.Gates) ty3 (.t rfl) (Hole.app (.s (.s (.s .z)))) (fun _ => rfl) rfl, ?_⟩
    refine .inl ?_
    refine ⟨_, fun H => OpP.move (.t rfl) rfl, ?_⟩
    refine ⟨_, fun H => OpP.fldW G_api_Config.l3 fd56_3 rfl (.t rfl) rfl, ?_⟩
    refine ⟨_, fun H => OpP.ldF (fun x => x.Wallets) ty3 (.t rfl) (Hole.app (.s (.s (.s .z)))) (fun _ => rfl) rfl, ?_⟩
    refine .inl ?_
    refine .inl ?_
    refine .inl ?_
    refine ⟨⟨([], fun k => List.getD [(true, .none_), (true, .none_), (true, .none_), (true, .none_), _] k (true, .none_)), rfl⟩, ?_⟩
    refine OpH.callM hG (Next_e _ _ _ (by first | assumption | exact deckNew_ok _) (by first | omega | (simp; done) | (simp; omega) | (simp at *; omega)) (by first | omega | (simp; done) | (simp; omega) | (simp at *; omega))) (.s (.s (.s (.s .z)))) (.cons (.t rfl) (.cons (.t rfl) .nil)) (by rintro _ _ ⟨_, _, _, _, _, _, rfl⟩; exact ⟨_, rfl⟩) fun r29 B29 hr29 => ?_
    obtain ⟨v29, d29, h029, h129, hd29, rfl, hB⟩ := hr29
    cases hB
    refine ⟨⟨([], fun k => List.getD [(true, .none_), (true, .none_), (true, .none_), (true, .none_), _] k (true, .none_)), rfl⟩, ?_⟩
    refine OpH.callM hG (Next_e _ _ _ (by first | assumption | exact deckNew_ok _) (by first | omega | (simp; done) | (simp; omega) | (simp at *; omega)) (by first | omega | (simp; done) | (simp; omega) | (simp at *; omega))) (.s (.s (.s (.s .z)))) (.cons (.t rfl) (.cons (.t rfl) .nil)) (by rintro _ _ ⟨_, _, _, _, _, _, rfl⟩; exact ⟨_, rfl⟩) fun r33 B33 hr33 => ?_
    obtain ⟨v33, d33, h033, h133, hd33, rfl, hB⟩ := hr33
    cases hB
    refine ⟨⟨([], fun k => List.getD [(true, .none_), (true, .none_), (true, .none_), (true, .none_), _] k (true, .none_)), rfl⟩, ?_⟩
    refine OpH.ofP (OpP.assign (.t rfl) ?_)
    refine ⟨⟨([], fun k => List.getD [(true, .none_), (true, .none_), (true, .none_), (true, .none_), _] k (true, .none_)), rfl⟩, ?_⟩
    refine OpH.ofP (OpP.assign (.t rfl) ?_)
    refine ⟨⟨([], fun k => List.getD [(true, .none_), (true, .none_), (true, .none_), (true, .none_), _] k (true, .none_)), rfl⟩, ?_⟩
    show wpB _ _ _ _ _ _ ((8, _) :: (7, _) :: (33, _) :: (32, _) :: (31, _) :: (30, _) :: (29, _) :: (28, _) :: (27, _) :: (26, _) :: _) _
    refine .nil ?_
    refine .seq ?_
    refine .seq ?_
    refine .region rfl ?_
    refine .p (.fldW G_api_Step.l0 fd30_0 rfl (.t rfl) (.p (.ldF (fun x => x.Kind) ty3 (.t rfl) (.s .z) (fun _ => rfl) ?_)))
    refine .nil ?_
    refine .block ?_
    refine .seq ?_
    refine .region rfl ?_
    refine .p (.eqlI (.t rfl) (.i rfl) (.p (.assign (.t rfl) ?_)))
    refine .nil ?_
    refine .condP (.t rfl) (fun hc36 => ?_) (fun hc36 => ?_)
    · refine .region rfl ?_
      refine .p (.move (.t rfl) (.h (.callM hG (Range_e _ _ _ _ (by first | assumption | exact deckNew_ok _) (by first | omega | (simp; done) | (simp; omega) | (simp at *; omega)) (by first | omega | (simp; done) | (simp; omega) | (simp at *; omega)) (by first | omega | (simp; done) | (simp; omega) | (simp at *; omega))) (.s (.s (.s (.s .z)))) (.cons (.t rfl) (.cons (.i rfl) (.cons (.i rfl) .nil))) (by rintro _ _ ⟨_, _, _, _, _, _, rfl⟩; exact ⟨_, rfl⟩) fun r39 B39 hr39 => ?_)))
      obtain ⟨v39, d39, h039, h139, hd39, rfl, hB⟩ := hr39
      cases hB
      refine .p (.fldW G_api_Step.l3 fd30_3 rfl (.t rfl) (.n (.stF (fun y x => { x with N := y }) ty3 (.t rfl) (.t rfl) (.s .z) (fun _ _ => rfl) ?_)))
      refine .nil ?_
      refine .seq ?_
      refine .region rfl ?_
      refine .p (.ldW ty30 (.t rfl) (.s .z) (.n (.stW ty30 (.t rfl) (.t rfl) (.s (.s .z)) ?_)))
      refine .nil ?_
      refine .ret ?_
      refine ⟨_, .r1 rfl (.cell ty30 rfl (.s (.s .z))), ?_⟩
      refine ⟨_, .cons (.s (.s (.s (.s .z)))) (.nil), ?_⟩
      dsimp only at *
      first | (have hh : kk = 2 := (by omega); subst hh) | (have hh : kk = 3 := (by omega); subst hh) | (have hh : kk = 4 := (by omega); subst hh) | (have hh : kk = 5 := (by omega); subst hh) | (have hh : kk = 6 := (by omega); subst hh) | (have hh : kk = 7 := (by omega); subst hh) | (have hh : kk = 8 := (by omega); subst hh) | (have hh : kk = 9 := (by omega); subst hh) | (have hh : kk = 10 := (by omega); subst hh) | (have hh : kk = 11 := (by omega); subst hh) | (have hh : kk = 12 := (by omega); subst hh) | (have hh : kk = 13 := (by omega); subst hh) | (have hh : kk = 14 := (by omega); subst hh) | (have hh : kk = 15 := (by omega); subst hh) | (have hh : kk = 16 := (by omega); subst hh) | (have hh : kk = 17 := (by omega); subst hh) | (have hh : kk = 18 := (by omega); subst hh) | (have hh : kk = 19 := (by omega); subst hh) | (have hh : kk = 20 := (by omega); subst hh) | (have hh : kk = 21 := (by omega); subst hh) | (have hh : kk = 22 := (by omega); subst hh) | (have hh : kk = 1 := (by omega); subst hh) | (exfalso; omega)
      exact stepD_of ⟨by dsimp only; omega, by dsimp only; omega⟩ (by assumption) rfl (by first | exact zR | exact ⟨by dsimp only; omega, by dsimp only; omega⟩) (by first | exact zR | exact ⟨by dsimp only; omega, by dsimp only; omega⟩) (by first | exact zR | exact ⟨by dsimp only; omega, by dsimp only; omega⟩) (by first | exact zR | exact ⟨by dsimp only; omega, by dsimp only; omega⟩) (by first | exact zR | exact ⟨by dsimp only; omega, by dsimp only; omega⟩) (by first | exact zR | exact ⟨by dsimp only; omega, by dsimp only; omega⟩) (by first | exact zR | exact ⟨by dsimp only; omega, by dsimp only; omega⟩) (by first | assumption | (intro p hp; cases hp)) (by first | assumption | (dsimp only; omega) | (show ((0 : Nat) : Int) ≤ 2; decide)) (fun h => by first | exact Bool.noConfusion (show false = true from h) | rfl | exact (by decide : ∀ x ∈ ([⟨[97, 110, 110]⟩, ⟨[98, 111, 98]⟩, ⟨[100, 97, 110]⟩] : List Str), isLabel x = true) _ (List.getElem_mem _))
    · refine .seq ?_
      refine .region rfl ?_
      refine .p (.eqlI (.t rfl) (.i rfl) (.p (.assign (.t rfl) ?_)))
      refine .nil ?_
      refine .condP (.t rfl) (fun hc41 => ?_) (fun hc41 => ?_)
      · refine .region rfl ?_
        refine .p (.move (.t rfl) (.p (.move (.t rfl) (.h (.callM hG (Wide_deck_c _ _ _ _ (by assumption) (by decide) (by decide) (by decide)) (.s (.s (.s (.s .z)))) (.cons (.t rfl) (.cons (.i rfl) (.cons (.s [97, 110, 110] (by decide) (by decide)) .nil))) (by rintro _ _ ⟨_, _, _, _, _, _, rfl⟩; exact ⟨_, rfl⟩) fun r45 B45 hr45 => ?_)))))
        obtain ⟨l45, hl45, hp45, d45, hd45, rfl, hB⟩ := hr45
        cases hB
        refine .p (.fldW G_api_Step.l1 fd30_1 rfl (.t rfl) (.n (.stF (fun y x => { x with A := y }) ty3 (.t rfl) (.t rfl) (.s .z) (fun _ _ => rfl) (.p (.fldW G_api_Step.l4 fd30_4 rfl (.t rfl) (.n (.stF (fun y x => { x with Predicates := y }) ty24 (.t rfl) (.t rfl) (.s .z) (fun _ _ => rfl) ?_)))))))
        refine .nil ?_
        refine .seq ?_
        refine .region rfl ?_
        refine .p (.ldW ty30 (.t rfl) (.s .z) (.n (.stW ty30 (.t rfl) (.t rfl) (.s (.s .z)) ?_)))
        refine .nil ?_
        refine .ret ?_
        refine ⟨_, .r1 rfl (.cell ty30 rfl (.s (.s .z))), ?_⟩
        refine ⟨_, .cons (.s (.s (.s (.s .z)))) (.nil), ?_⟩
        dsimp only at *
        first | (have hh : kk = 2 := (by omega); subst hh) | (have hh : kk = 3 := (by omega); subst hh) | (have hh : kk = 4 := (by omega); subst hh) | (have hh : kk = 5 := (by omega); subst hh) | (have hh : kk = 6 := (by omega); subst hh) | (have hh : kk = 7 := (by omega); subst hh) | (have hh : kk = 8 := (by omega); subst hh) | (have hh : kk = 9 := (by omega); subst hh) | (have hh : kk = 10 := (by omega); subst hh) | (have hh : kk = 11 := (by omega); subst hh) | (have hh : kk = 12 := (by omega); subst hh) | (have hh : kk = 13 := (by omega); subst hh) | (have hh : kk = 14 := (by omega); subst hh) | (have hh : kk = 15 := (by omega); subst hh) | (have hh : kk = 16 := (by omega); subst hh) | (have hh : kk = 17 := (by omega); subst hh) | (have hh : kk = 18 := (by omega); subst hh) | (have hh : kk = 19 := (by omega); subst hh) | (have hh : kk = 20 := (by omega); subst hh) | (have hh : kk = 21 := (by omega); subst hh) | (have hh : kk = 22 := (by omega); subst hh) | (have hh : kk = 1 := (by omega); subst hh) | (exfalso; omega)
        exact stepD_of ⟨by dsimp only; omega, by dsimp only; omega⟩ (by assumption) rfl (by first | exact zR | exact ⟨by dsimp only; omega, by dsimp only; omega⟩) (by first | exact zR | exact ⟨by dsimp only; omega, by dsimp only; omega⟩) (by first | exact zR | exact ⟨by dsimp only; omega, by dsimp only; omega⟩) (by first | exact zR | exact ⟨by dsimp only; omega, by dsimp only; omega⟩) (by first | exact zR | exact ⟨by dsimp only; omega, by dsimp only; omega⟩) (by first | exact zR | exact ⟨by dsimp only; omega, by dsimp only; omega⟩) (by first | exact zR | exact ⟨by dsimp only; omega, by dsimp only; omega⟩) (by first | assumption | (intro p hp; cases hp)) (by first | assumption | (dsimp only; omega) | (show ((0 : Nat) : Int) ≤ 2; decide)) (fun h => by first | exact Bool.noConfusion (show false = true from h) | rfl | exact (by decide : ∀ x ∈ ([⟨[97, 110, 110]⟩, ⟨[98, 111, 98]⟩, ⟨[100, 97, 110]⟩] : List Str), isLabel x = true) _ (List.getElem_mem _))
      · refine .seq ?_
        refine .region rfl ?_
        refine .p (.eqlI (.t rfl) (.i rfl) (.p (.assign (.t rfl) ?_)))
        refine .nil ?_
        refine .condP (.t rfl) (fun hc48 => ?_) (fun hc48 => ?_)
        · refine .region rfl ?_
          refine .p (.move (.t rfl) (.p (.move (.t rfl) (.h (.callM hG (Next_e _ _ _ (by first | assumption | exact deckNew_ok _) (by first | omega | (simp; done) | (simp; omega) | (simp at *; omega)) (by first | omega | (simp; done) | (simp; omega) | (simp at *; omega))) (.s (.s (.s (.s .z)))) (.cons (.t rfl) (.cons (.i rfl) .nil)) (by rintro _ _ ⟨_, _, _, _, _, _, rfl⟩; exact ⟨_, rfl⟩) fun r52 B52 hr52 => ?_)))))
          obtain ⟨v52, d52, h052, h152, hd52, rfl, hB⟩ := hr52
          cases hB
          refine .p (.move (.t rfl) (.h (.callM hG (Next_e _ _ _ (by first | assumption | exact deckNew_ok _) (by first | omega | (simp; done) | (simp; omega) | (simp at *; omega)) (by first | omega | (simp; done) | (simp; omega) | (simp at *; omega))) (.s (.s (.s (.s .z)))) (.cons (.t rfl) (.cons (.i rfl) .nil)) (by rintro _ _ ⟨_, _, _, _, _, _, rfl⟩; exact ⟨_, rfl⟩) fun r54 B54 hr54 => ?_)))
          obtain ⟨v54, d54, h054, h154, hd54, rfl, hB⟩ := hr54
          cases hB
          refine .p (.fldW G_api_Step.l1 fd30_1 rfl (.t rfl) (.n (.stF (fun y x => { x with A := y }) ty3 (.t rfl) (.t rfl) (.s .z) (fun _ _ => rfl) (.p (.fldW G_api_Step.l2 fd30_2 rfl (.t rfl) (.n (.stF (fun y x => { x with B := y }) ty3 (.t rfl) (.t rfl) (.s .z) (fun _ _ => rfl) (.p (.fldW G_api_Step.l3 fd30_3 rfl (.t rfl) (.n (.stF (fun y x => { x with N := y }) ty3 (.t rfl) (.t rfl) (.s .z) (fun _ _ => rfl) ?_)))))))))))
          refine .nil ?_
          refine .seq ?_
          refine .region rfl ?_
          refine .p (.ldW ty30 (.t rfl) (.s .z) (.n (.stW ty30 (.t rfl) (.t rfl) (.s (.s .z)) ?_)))
          refine .nil ?_
          refine .ret ?_
          refine ⟨_, .r1 rfl (.cell ty30 rfl (.s (.s .z))), ?_⟩
          refine ⟨_, .cons (.s (.s (.s (.s .z)))) (.nil), ?_⟩
          dsimp only at *
          first | (have hh : kk = 2 := (by omega); subst hh) | (have hh : kk = 3 := (by omega); subst hh) | (have hh : kk = 4 := (by omega); subst hh) | (have hh : kk = 5 := (by omega); subst hh) | (have hh : kk = 6 := (by omega); subst hh) | (have hh : kk = 7 := (by omega); subst hh) | (have hh : kk = 8 := (by omega); subst hh) | (have hh : kk = 9 := (by omega); subst hh) | (have hh : kk = 10 := (by omega); subst hh) | (have hh : kk = 11 := (by omega); subst hh) | (have hh : kk = 12 := (by omega); subst hh) | (have hh : kk = 13 := (by omega); subst hh) | (have hh : kk = 14 := (by omega); subst hh) | (have hh : kk = 15 := (by omega); subst hh) | (have hh : kk = 16 := (by omega); subst hh) | (have hh : kk = 17 := (by omega); subst hh) | (have hh : kk = 18 := (by omega); subst hh) | (have hh : kk = 19 := (by omega); subst hh) | (have hh : kk = 20 := (by omega); subst hh) | (have hh : kk = 21 := (by omega); subst hh) | (have hh : kk = 22 := (by omega); subst hh) | (have hh : kk = 1 := (by omega); subst hh) | (exfalso; omega)
          exact stepD_of ⟨by dsimp only; omega, by dsimp only; omega⟩ (by assumption) rfl (by first | exact zR | exact ⟨by dsimp only; omega, by dsimp only; omega⟩) (by first | exact zR | exact ⟨by dsimp only; omega, by dsimp only; omega⟩) (by first | exact zR | exact ⟨by dsimp only; omega, by dsimp only; omega⟩) (by first | exact zR | exact ⟨by dsimp only; omega, by dsimp only; omega⟩) (by first | exact zR | exact ⟨by dsimp only; omega, by dsimp only; omega⟩) (by first | exact zR | exact ⟨by dsimp only; omega, by dsimp only; omega⟩) (by first | exact zR | exact ⟨by dsimp only; omega, by dsimp only; omega⟩) (by first | assumption | (intro p hp; cases hp)) (by first | assumption | (dsimp only; omega) | (show ((0 : Nat) : Int) ≤ 2; decide)) (fun h => by first | exact Bool.noConfusion (show false = true from h) | rfl | exact (by decide : ∀ x ∈ ([⟨[97, 110, 110]⟩, ⟨[98, 111, 98]⟩, ⟨[100, 97, 110]⟩] : List Str), isLabel x = true) _ (List.getElem_mem _))
        · refine .seq ?_
          refine .region rfl ?_
          refine .p (.eqlI (.t rfl) (.i rfl) (.p (.assign (.t rfl) ?_)))
          refine .nil ?_
          refine .condP (.t rfl) (fun hc58 => ?_) (fun hc58 => ?_)
          · refine .region rfl ?_
            refine .p (.move (.t rfl) (.p (.move (.t rfl) (.h (.callM hG (Range_e _ _ _ _ (by first | assumption | exact deckNew_ok _) (by first | omega | (simp; done) | (simp; omega) | (simp at *; omega)) (by first | omega | (simp; done) | (simp; omega) | (simp at *; omega)) (by first | omega | (simp; done) | (simp; omega) | (simp at *; omega))) (.s (.s (.s (.s .z)))) (.cons (.t rfl) (.cons (.i rfl) (.cons (.i rfl) .nil))) (by rintro _ _ ⟨_, _, _, _, _, _, rfl⟩; exact ⟨_, rfl⟩) fun r62 B62 hr62 => ?_)))))
            obtain ⟨v62, d62, h062, h162, hd62, rfl, hB⟩ := hr62
            cases hB
            refine .p (.fldW G_api_Step.l1 fd30_1 rfl (.t rfl) (.n (.stF (fun y x => { x with A := y }) ty3 (.t rfl) (.t rfl) (.s .z) (fun _ _ => rfl) (.p (.fldW G_api_Step.l3 fd30_3 rfl (.t rfl) (.n (.stF (fun y x => { x with N := y }) ty3 (.t rfl) (.t rfl) (.s .z) (fun _ _ => rfl) ?_)))))))
            refine .nil ?_
            refine .seq ?_
            refine .region rfl ?_
            refine .p (.ldW ty30 (.t rfl) (.s .z) (.n (.stW ty30 (.t rfl) (.t rfl) (.s (.s .z)) ?_)))
            refine .nil ?_
            refine .ret ?_
            refine ⟨_, .r1 rfl (.cell ty30 rfl (.s (.s .z))), ?_⟩
            refine ⟨_, .cons (.s (.s (.s (.s .z)))) (.nil), ?_⟩
            dsimp only at *
            first | (have hh : kk = 2 := (by omega); subst hh) | (have hh : kk = 3 := (by omega); subst hh) | (have hh : kk = 4 := (by omega); subst hh) | (have hh : kk = 5 := (by omega); subst hh) | (have hh : kk = 6 := (by omega); subst hh) | (have hh : kk = 7 := (by omega); subst hh) | (have hh : kk = 8 := (by omega); subst hh) | (have hh : kk = 9 := (by omega); subst hh) | (have hh : kk = 10 := (by omega); subst hh) | (have hh : kk = 11 := (by omega); subst hh) | (have hh : kk = 12 := (by omega); subst hh) | (have hh : kk = 13 := (by omega); subst hh) | (have hh : kk = 14 := (by omega); subst hh) | (have hh : kk = 15 := (by omega); subst hh) | (have hh : kk = 16 := (by omega); subst hh) | (have hh : kk = 17 := (by omega); subst hh) | (have hh : kk = 18 := (by omega); subst hh) | (have hh : kk = 19 := (by omega); subst hh) | (have hh : kk = 20 := (by omega); subst hh) | (have hh : kk = 21 := (by omega); subst hh) | (have hh : kk = 22 := (by omega); subst hh) | (have hh : kk = 1 := (by omega); subst hh) | (exfalso; omega)
            exact stepD_of ⟨by dsimp only; omega, by dsimp only; omega⟩ (by assumption) rfl (by first | exact zR | exact ⟨by dsimp only; omega, by dsimp only; omega⟩) (by first | exact zR | exact ⟨by dsimp only; omega, by dsimp only; omega⟩) (by first | exact zR | exact ⟨by dsimp only; omega, by dsimp only; omega⟩) (by first | exact zR | exact ⟨by dsimp only; omega, by dsimp only; omega⟩) (by first | exact zR | exact ⟨by dsimp only; omega, by dsimp only; omega⟩) (by first | exact zR | exact ⟨by dsimp only; omega, by dsimp only; omega⟩) (by first | exact zR | exact ⟨by dsimp only; omega, by dsimp only; omega⟩) (by first | assumption | (intro p hp; cases hp)) (by first | assumption | (dsimp only; omega) | (show ((0 : Nat) : Int) ≤ 2; decide)) (fun h => by first | exact Bool.noConfusion (show false = true from h) | rfl | exact (by decide : ∀ x ∈ ([⟨[97, 110, 110]⟩, ⟨[98, 111, 98]⟩, ⟨[100, 97, 110]⟩] : List Str), isLabel x = true) _ (List.getElem_mem _))
          · refine .seq ?_
            refine .region rfl ?_
            refine .p (.eqlI (.t rfl) (.i rfl) (.p (.assign (.t rfl) ?_)))
            refine .nil ?_
            refine .condP (.t rfl) (fun hc65 => ?_) (fun hc65 => ?_)
            · refine .region rfl ?_
              refine .p (.move (.t rfl) (.p (.move (.t rfl) (.h (.callM hG (Next_e _ _ _ (by first | assumption | exact deckNew_ok _) (by first | omega | (simp; done) | (simp; omega) | (simp at *; omega)) (by first | omega | (simp; done) | (simp; omega) | (simp at *; omega))) (.s (.s (.s (.s .z)))) (.cons (.t rfl) (.cons (.i rfl) .nil)) (by rintro _ _ ⟨_, _, _, _, _, _, rfl⟩; exact ⟨_, rfl⟩) fun r69 B69 hr69 => ?_)))))
              obtain ⟨v69, d69, h069, h169, hd69, rfl, hB⟩ := hr69
              cases hB
              refine .p (.move (.t rfl) (.h (.callM hG (Wide_deck_c _ _ _ _ (by assumption) (by decide) (by decide) (by decide)) (.s (.s (.s (.s .z)))) (.cons (.t rfl) (.cons (.i rfl) (.cons (.s [97, 110, 110] (by decide) (by decide)) .nil))) (by rintro _ _ ⟨_, _, _, _, _, _, rfl⟩; exact ⟨_, rfl⟩) fun r71 B71 hr71 => ?_)))
              obtain ⟨l71, hl71, hp71, d71, hd71, rfl, hB⟩ := hr71
              cases hB
              refine .p (.fldW G_api_Step.l1 fd30_1 rfl (.t rfl) (.n (.stF (fun y x => { x with A := y }) ty3 (.t rfl) (.t rfl) (.s .z) (fun _ _ => rfl) (.p (.fldW G_api_Step.l2 fd30_2 rfl (.t rfl) (.n (.stF (fun y x => { x with B := y }) ty3 (.t rfl) (.t rfl) (.s .z) (fun _ _ => rfl) (.p (.fldW G_api_Step.l4 fd30_4 rfl (.t rfl) (.n (.stF (fun y x => { x with Predicates := y }) ty24 (.t rfl) (.t rfl) (.s .z) (fun _ _ => rfl) ?_)))))))))))
              refine .nil ?_
              refine .seq ?_
              refine .region rfl ?_
              refine .p (.ldW ty30 (.t rfl) (.s .z) (.n (.stW ty30 (.t rfl) (.t rfl) (.s (.s .z)) ?_)))
              refine .nil ?_
              refine .ret ?_
              refine ⟨_, .r1 rfl (.cell ty30 rfl (.s (.s .z))), ?_⟩
              refine ⟨_, .cons (.s (.s (.s (.s .z)))) (.nil), ?_⟩
              dsimp only at *
              first | (have hh : kk = 2 := (by omega); subst hh) | (have hh : kk = 3 := (by omega); subst hh) | (have hh : kk = 4 := (by omega); subst hh) | (have hh : kk = 5 := (by omega); subst hh) | (have hh : kk = 6 := (by omega); subst hh) | (have hh : kk = 7 := (by omega); subst hh) | (have hh : kk = 8 := (by omega); subst hh) | (have hh : kk = 9 := (by omega); subst hh) | (have hh : kk = 10 := (by omega); subst hh) | (have hh : kk = 11 := (by omega); subst hh) | (have hh : kk = 12 := (by omega); subst hh) | (have hh : kk = 13 := (by omega); subst hh) | (have hh : kk = 14 := (by omega); subst hh) | (have hh : kk = 15 := (by omega); subst hh) | (have hh : kk = 16 := (by omega); subst hh) | (have hh : kk = 17 := (by omega); subst hh) | (have hh : kk = 18 := (by omega); subst hh) | (have hh : kk = 19 := (by omega); subst hh) | (have hh : kk = 20 := (by omega); subst hh) | (have hh : kk = 21 := (by omega); subst hh) | (have hh : kk = 22 := (by omega); subst hh) | (have hh : kk = 1 := (by omega); subst hh) | (exfalso; omega)
              exact stepD_of ⟨by dsimp only; omega, by dsimp only; omega⟩ (by assumption) rfl (by first | exact zR | exact ⟨by dsimp only; omega, by dsimp only; omega⟩) (by first | exact zR | exact ⟨by dsimp only; omega, by dsimp only; omega⟩) (by first | exact zR | exact ⟨by dsimp only; omega, by dsimp only; omega⟩) (by first | exact zR | exact ⟨by dsimp only; omega, by dsimp only; omega⟩) (by first | exact zR | exact ⟨by dsimp only; omega, by dsimp only; omega⟩) (by first | exact zR | exact ⟨by dsimp only; omega, by dsimp only; omega⟩) (by first | exact zR | exact ⟨by dsimp only; omega, by dsimp only; omega⟩) (by first | assumption | (intro p hp; cases hp)) (by first | assumption | (dsimp only; omega) | (show ((0 : Nat) : Int) ≤ 2; decide)) (fun h => by first | exact Bool.noConfusion (show false = true from h) | rfl | exact (by decide : ∀ x ∈ ([⟨[97, 110, 110]⟩, ⟨[98, 111, 98]⟩, ⟨[100, 97, 110]⟩] : List Str), isLabel x = true) _ (List.getElem_mem _))
            · refine .seq ?_
              refine .region rfl ?_
              refine .p (.eqlI (.t rfl) (.i rfl) (.p (.assign (.t rfl) ?_)))
              refine .nil ?_
              refine .condP (.t rfl) (fun hc75 => ?_) (fun hc75 => ?_)
              · refine .region rfl ?_
                refine .p (.move (.t rfl) (.p (.move (.t rfl) (.h (.callM hG (Next_e _ _ _ (by first | assumption | exact deckNew_ok _) (by first | omega | (simp; done) | (simp; omega) | (simp at *; omega)) (by first | omega | (simp; done) | (simp; omega) | (simp at *; omega))) (.s (.s (.s (.s .z)))) (.cons (.t rfl) (.cons (.i rfl) .nil)) (by rintro _ _ ⟨_, _, _, _, _, _, rfl⟩; exact ⟨_, rfl⟩) fun r79 B79 hr79 => ?_)))))
                obtain ⟨v79, d79, h079, h179, hd79, rfl, hB⟩ := hr79
                cases hB
                refine .p (.move (.t rfl) (.h (.callM hG (Next_e _ _ _ (by first | assumption | exact deckNew_ok _) (by first | omega | (simp; done) | (simp; omega) | (simp at *; omega)) (by first | omega | (simp; done) | (simp; omega) | (simp at *; omega))) (.s (.s (.s (.s .z)))) (.cons (.t rfl) (.cons (.i rfl) .nil)) (by rintro _ _ ⟨_, _, _, _, _, _, rfl⟩; exact ⟨_, rfl⟩) fun r81 B81 hr81 => ?_)))
                obtain ⟨v81, d81, h081, h181, hd81, rfl, hB⟩ := hr81
                cases hB
                refine .p (.move (.t rfl) (.h (.callM hG (Next_e _ _ _ (by first | assumption | exact deckNew_ok _) (by first | omega | (simp; done) | (simp; omega) | (simp at *; omega)) (by first | omega | (simp; done) | (simp; omega) | (simp at *; omega))) (.s (.s (.s (.s .z)))) (.cons (.t rfl) (.cons (.i rfl) .nil)) (by rintro _ _ ⟨_, _, _, _, _, _, rfl⟩; exact ⟨_, rfl⟩) fun r83 B83 hr83 => ?_)))
                obtain ⟨v83, d83, h083, h183, hd83, rfl, hB⟩ := hr83
                cases hB
                refine .p (.move (.t rfl) (.h (.callM hG (Range_e _ _ _ _ (by first | assumption | exact deckNew_ok _) (by first | omega | (simp; done) | (simp; omega) | (simp at *; omega)) (by first | omega | (simp; done) | (simp; omega) | (simp at *; omega)) (by first | omega | (simp; done) | (simp; omega) | (simp at *; omega))) (.s (.s (.s (.s .z)))) (.cons (.t rfl) (.cons (.i rfl) (.cons (.i rfl) .nil))) (by rintro _ _ ⟨_, _, _, _, _, _, rfl⟩; exact ⟨_, rfl⟩) fun r85 B85 hr85 => ?_)))
                obtain ⟨v85, d85, h085, h185, hd85, rfl, hB⟩ := hr85
                cases hB
                refine .p (.bS2 G_api_Terms.l0 G_api_Terms.l1 rfl ty26 fo26 (fun c0 c1 => (⟨c0, c1⟩ : G_api_Terms)) (fun _ _ => rfl) rfl rfl rfl (.t rfl) (.t rfl) (.p (.fldW G_api_Step.l1 fd30_1 rfl (.t rfl) (.n (.stF (fun y x => { x with A := y }) ty3 (.t rfl) (.t rfl) (.s .z) (fun _ _ => rfl) (.p (.fldW G_api_Step.l2 fd30_2 rfl (.t rfl) (.n (.stF (fun y x => { x with B := y }) ty3 (.t rfl) (.t rfl) (.s .z) (fun _ _ => rfl) (.p (.fldW G_api_Step.l3 fd30_3 rfl (.t rfl) ?_)))))))))))
                refine .n (.stF (fun y x => { x with N := y }) ty3 (.t rfl) (.t rfl) (.s .z) (fun _ _ => rfl) (.p (.fldW G_api_Step.l5 fd30_5 rfl (.t rfl) (.n (.stF (fun y x => { x with Terms := y }) ty26 (.t rfl) (.t rfl) (.s .z) (fun _ _ => rfl) ?_)))))
                refine .nil ?_
                refine .seq ?_
                refine .region rfl ?_
                refine .p (.ldW ty30 (.t rfl) (.s .z) (.n (.stW ty30 (.t rfl) (.t rfl) (.s (.s .z)) ?_)))
                refine .nil ?_
                refine .ret ?_
                refine ⟨_, .r1 rfl (.cell ty30 rfl (.s (.s .z))), ?_⟩
                refine ⟨_, .cons (.s (.s (.s (.s .z)))) (.nil), ?_⟩
                dsimp only at *
                first | (have hh : kk = 2 := (by omega); subst hh) | (have hh : kk = 3 := (by omega); subst hh) | (have hh : kk = 4 := (by omega); subst hh) | (have hh : kk = 5 := (by omega); subst hh) | (have hh : kk = 6 := (by omega); subst hh) | (have hh : kk = 7 := (by omega); subst hh) | (have hh : kk = 8 := (by omega); subst hh) | (have hh : kk = 9 := (by omega); subst hh) | (have hh : kk = 10 := (by omega); subst hh) | (have hh : kk = 11 := (by omega); subst hh) | (have hh : kk = 12 := (by omega); subst hh) | (have hh : kk = 13 := (by omega); subst hh) | (have hh : kk = 14 := (by omega); subst hh) | (have hh : kk = 15 := (by omega); subst hh) | (have hh : kk = 16 := (by omega); subst hh) | (have hh : kk = 17 := (by omega); subst hh) | (have hh : kk = 18 := (by omega); subst hh) | (have hh : kk = 19 := (by omega); subst hh) | (have hh : kk = 20 := (by omega); subst hh) | (have hh : kk = 21 := (by omega); subst hh) | (have hh : kk = 22 := (by omega); subst hh) | (have hh : kk = 1 := (by omega); subst hh) | (exfalso; omega)
                exact stepD_of ⟨by dsimp only; omega, by dsimp only; omega⟩ (by assumption) rfl (by first | exact zR | exact ⟨by dsimp only; omega, by dsimp only; omega⟩) (by first | exact zR | exact ⟨by dsimp only; omega, by dsimp only; omega⟩) (by first | exact zR | exact ⟨by dsimp only; omega, by dsimp only; omega⟩) (by first | exact zR | exact ⟨by dsimp only; omega, by dsimp only; omega⟩) (by first | exact zR | exact ⟨by dsimp only; omega, by dsimp only; omega⟩) (by first | exact zR | exact ⟨by dsimp only; omega, by dsimp only; omega⟩) (by first | exact zR | exact ⟨by dsimp only; omega, by dsimp only; omega⟩) (by first | assumption | (intro p hp; cases hp)) (by first | assumption | (dsimp only; omega) | (show ((0 : Nat) : Int) ≤ 2; decide)) (fun h => by first | exact Bool.noConfusion (show false = true from h) | rfl | exact (by decide : ∀ x ∈ ([⟨[97, 110, 110]⟩, ⟨[98, 111, 98]⟩, ⟨[100, 97, 110]⟩] : List Str), isLabel x = true) _ (List.getElem_mem _))
              · refine .seq ?_
                refine .region rfl ?_
                refine .p (.eqlI (.t rfl) (.i rfl) (.p (.assign (.t rfl) ?_)))
                refine .nil ?_
                refine .condP (.t rfl) (fun hc91 => ?_) (fun hc91 => ?_)
                · refine .drawZ [[false, false, false, false, false], [false, false, false, false, true], [false, false, false, false, true], [false, true, false, false, true], [false, true, false, false, true], [false, true, false, false, true]] [[false, false, false, false, true], [false, false, false, false, false], [], [false, true, false, false, true], [false, false, false, false, true], [], [false, true, false, false, true], [false, true, false, false, true], [false, false, false, false, true], [], [false, true, false, false, true], [], [false, true, false, false, true], []] [[], [], [6, 7], [], [], []] [] 5 (by kernel_rfl) 14 [[], [], [(94, 1)], [], [], [(97, 4)], [(96, 3), (98, 5)], [(99, 6)], [], [(101, 8), (93, 0)], [], [(102, 10), (95, 2)], [], [(103, 12), (100, 7)]] [2, 5, 9, 11, 13] rfl (by kernel_rfl) rfl (by kernel_rfl) rfl (by decide) (by simp) (fun p hp => by cases hp) (by kernel_rfl) rfl ?_
                  refine ⟨_, fun H => OpP.move (.t rfl) rfl, ?_⟩
                  refine ⟨_, fun H => OpP.move (.t rfl) rfl, ?_⟩
                  refine .inl ?_
                  refine ⟨_, fun H => OpP.buildSliceF (α := Str) ty9 Tryz.underlying36 (.cons (.s [97, 110, 110] (by decide) (by decide)) (.cons (.s [98, 111, 98] (by decide) (by decide)) (.cons (.s [100, 97, 110] (by decide) (by decide)) .nil))) rfl (by decide) rfl, ?_⟩
                  refine ⟨_, fun H => OpP.move (.t rfl) rfl, ?_⟩
                  refine .inl ?_
                  refine .inl ?_
                  refine .inl ?_
                  refine ⟨_, fun H => OpP.fldW G_api_Step.l1 fd30_1 rfl (.t rfl) rfl, ?_⟩
                  refine .inl ?_
                  refine ⟨_, fun H => OpP.fldW G_api_Step.l2 fd30_2 rfl (.t rfl) rfl, ?_⟩
                  refine .inl ?_
                  refine ⟨_, fun H => OpP.fldW G_api_Step.l6 fd30_6 rfl (.t rfl) rfl, ?_⟩
                  refine .inl ?_
                  refine ⟨rfl, ?_⟩
                  refine ⟨⟨fun k => List.getD [(true, .none_), (true, .none_), (true, .none_), (true, .none_), (true, .none_)] k (true, .none_), rfl⟩, fun Ys20 => ?_⟩
                  refine OpH.callM hG (Next_e _ _ _ (by first | assumption | exact deckNew_ok _) (by first | omega | (simp; done) | (simp; omega) | (simp at *; omega)) (by first | omega | (simp; done) | (simp; omega) | (simp at *; omega))) (Hole.app (Hole.app (.s (.s (.s (.s .z)))))) (.cons (.t rfl) (.cons (.i rfl) .nil)) (by rintro _ _ ⟨_, _, _, _, _, _, rfl⟩; exact ⟨_, rfl⟩) fun r95 B95 hr95 => ?_
                  obtain ⟨v95, d95, h095, h195, hd95, rfl, hB⟩ := hr95
                  cases hB
                  refine ⟨[], _, rfl, ?_⟩
                  refine ⟨⟨fun k => List.getD [(true, .none_), (true, .none_), (true, .none_), (true, .none_), _] k (true, .none_), rfl⟩, fun Ys20 => ?_⟩
                  refine OpH.callM hG (Next_e _ _ _ (by first | assumption | exact deckNew_ok _) (by first | omega | (simp; done) | (simp; omega) | (simp at *; omega)) (by first | omega | (simp; done) | (simp; omega) | (simp at *; omega))) (Hole.app (Hole.app (.s (.s (.s (.s .z)))))) (.cons (.t rfl) (.cons (.i rfl) .nil)) (by rintro _ _ ⟨_, _, _, _, _, _, rfl⟩; exact ⟨_, rfl⟩) fun r98 B98 hr98 => ?_
                  obtain ⟨v98, d98, h098, h198, hd98, rfl, hB⟩ := hr98
                  cases hB
                  refine ⟨[], _, rfl, ?_⟩
                  refine ⟨_, fun H => OpP.idx ty9 Tryz.underlying36 (.c rfl) (.t rfl) (by first | omega | (simp; done) | (simp; omega) | (simp at *; omega)) (by first | omega | (simp; done) | (simp; omega) | (simp at *; omega)) rfl, ?_⟩
                  refine ⟨_, fun H => OpP.ldP ty9 (.t rfl) rfl, ?_⟩
                  refine ⟨⟨fun k => List.getD [(true, .none_), (true, .none_), (true, .none_), (true, .none_), _] k (true, .none_), rfl⟩, fun Ys20 => ?_⟩
                  refine OpH.stF (fun y x => { x with A := y }) ty3 (.t rfl) (.t rfl) (Hole.app (Hole.app (.s .z))) (fun _ _ => rfl) ?_
                  refine ⟨[], _, rfl, ?_⟩
                  refine ⟨⟨fun k => List.getD [(true, .none_), _, (true, .none_), (true, .none_), _] k (true, .none_), rfl⟩, fun Ys20 => ?_⟩
                  refine OpH.stF (fun y x => { x with B := y }) ty3 (.t rfl) (.t rfl) (Hole.app (Hole.app (.s .z))) (fun _ _ => rfl) ?_
                  refine ⟨[], _, rfl, ?_⟩
                  refine ⟨⟨fun k => List.getD [(true, .none_), _, (true, .none_), (true, .none_), _] k (true, .none_), rfl⟩, fun Ys20 => ?_⟩
                  refine OpH.stF (fun y x => { x with Holder := y }) ty9 (.t rfl) (.t rfl) (Hole.app (Hole.app (.s .z))) (fun _ _ => rfl) ?_
                  refine ⟨[], _, rfl, ?_⟩
                  refine ⟨⟨fun k => List.getD [(true, .none_), _, (true, .none_), (true, .none_), _] k (true, .none_), rfl⟩, fun ws20 => ?_⟩
                  refine ⟨⟨fun k => List.getD [(true, .none_), _, (true, .none_), (true, .none_), _] k (true, .none_), rfl⟩, fun _ => ?_⟩
                  show wpB _ _ _ _ _ _ ((103, _) :: (102, _) :: (101, _) :: (100, _) :: (99, _) :: (98, _) :: (97, _) :: (96, _) :: (95, _) :: (94, _) :: (93, _) :: _) _
                  refine .nil ?_
                  refine .seq ?_
                  refine .region rfl ?_
                  refine .p (.ldW ty30 (.t rfl) (.s .z) (.n (.stW ty30 (.t rfl) (.t rfl) (.s (.s .z)) ?_)))
                  refine .nil ?_
                  refine .ret ?_
                  refine ⟨_, .r1 rfl (.cell ty30 rfl (.s (.s .z))), ?_⟩
                  refine ⟨_, .cons (.s (.s (.s (.s .z)))) (.nil), ?_⟩
                  dsimp only at *
                  first | (have hh : kk = 2 := (by omega); subst hh) | (have hh : kk = 3 := (by omega); subst hh) | (have hh : kk = 4 := (by omega); subst hh) | (have hh : kk = 5 := (by omega); subst hh) | (have hh : kk = 6 := (by omega); subst hh) | (have hh : kk = 7 := (by omega); subst hh) | (have hh : kk = 8 := (by omega); subst hh) | (have hh : kk = 9 := (by omega); subst hh) | (have hh : kk = 10 := (by omega); subst hh) | (have hh : kk = 11 := (by omega); subst hh) | (have hh : kk = 12 := (by omega); subst hh) | (have hh : kk = 13 := (by omega); subst hh) | (have hh : kk = 14 := (by omega); subst hh) | (have hh : kk = 15 := (by omega); subst hh) | (have hh : kk = 16 := (by omega); subst hh) | (have hh : kk = 17 := (by omega); subst hh) | (have hh : kk = 18 := (by omega); subst hh) | (have hh : kk = 19 := (by omega); subst hh) | (have hh : kk = 20 := (by omega); subst hh) | (have hh : kk = 21 := (by omega); subst hh) | (have hh : kk = 22 := (by omega); subst hh) | (have hh : kk = 1 := (by omega); subst hh) | (exfalso; omega)
                  exact stepD_of ⟨by dsimp only; omega, by dsimp only; omega⟩ (by assumption) rfl (by first | exact zR | exact ⟨by dsimp only; omega, by dsimp only; omega⟩) (by first | exact zR | exact ⟨by dsimp only; omega, by dsimp only; omega⟩) (by first | exact zR | exact ⟨by dsimp only; omega, by dsimp only; omega⟩) (by first | exact zR | exact ⟨by dsimp only; omega, by dsimp only; omega⟩) (by first | exact zR | exact ⟨by dsimp only; omega, by dsimp only; omega⟩) (by first | exact zR | exact ⟨by dsimp only; omega, by dsimp only; omega⟩) (by first | exact zR | exact ⟨by dsimp only; omega, by dsimp only; omega⟩) (by first | assumption | (intro p hp; cases hp)) (by first | assumption | (dsimp only; omega) | (show ((0 : Nat) : Int) ≤ 2; decide)) (fun h => by first | exact Bool.noConfusion (show false = true from h) | rfl | exact (by decide : ∀ x ∈ ([⟨[97, 110, 110]⟩, ⟨[98, 111, 98]⟩, ⟨[100, 97, 110]⟩] : List Str), isLabel x = true) _ (List.getElem_mem _))
                · refine .seq ?_
                  refine .region rfl ?_
                  refine .p (.eqlI (.t rfl) (.i rfl) (.p (.assign (.t rfl) ?_)))
                  refine .nil ?_
                  refine .condP (.t rfl) (fun hc104 => ?_) (fun hc104 => ?_)
                  · refine .drawCF [false, false, false, false, true] (by kernel_rfl) 8 [[], [], [(107, 1)], [], [], [(110, 4)], [(109, 3), (111, 5)], []] [2, 6] rfl (by kernel_rfl) rfl (by kernel_rfl) (by decide) ?_
                    refine ⟨_, fun H => OpP.move (.t rfl) rfl, ?_⟩
                    refine ⟨_, fun H => OpP.move (.t rfl) rfl, ?_⟩
                    refine .inl ?_
                    refine ⟨_, fun H => OpP.move (.t rfl) rfl, ?_⟩
                    refine ⟨_, fun H => OpP.fldW G_api_Config.l3 fd56_3 rfl (.t rfl) rfl, ?_⟩
                    refine ⟨_, fun H => OpP.ldF (fun x => x.Wallets) ty3 (.t rfl) (Hole.app (.s (.s (.s .z)))) (fun _ => rfl) rfl, ?_⟩
                    refine .inl ?_
                    refine ⟨_, fun H => OpP.fldW G_api_Step.l1 fd30_1 rfl (.t rfl) rfl, ?_⟩
                    refine ⟨⟨([], fun k => List.getD [(true, .none_), (true, .none_), (true, .none_), (true, .none_), _] k (true, .none_)), rfl⟩, ?_⟩
                    refine OpH.callM hG (Next_e _ _ _ (by first | assumption | exact deckNew_ok _) (by first | omega | (simp; done) | (simp; omega) | (simp at *; omega)) (by first | omega | (simp; done) | (simp; omega) | (simp at *; omega))) (.s (.s (.s (.s .z)))) (.cons (.t rfl) (.cons (.i rfl) .nil)) (by rintro _ _ ⟨_, _, _, _, _, _, rfl⟩; exact ⟨_, rfl⟩) fun r108 B108 hr108 => ?_
                    obtain ⟨v108, d108, h0108, h1108, hd108, rfl, hB⟩ := hr108
                    cases hB
                    refine ⟨⟨([], fun k => List.getD [(true, .none_), (true, .none_), (true, .none_), (true, .none_), _] k (true, .none_)), rfl⟩, ?_⟩
                    refine OpH.callM hG (Next_e _ _ _ (by first | assumption | exact deckNew_ok _) (by first | omega | (simp; done) | (simp; omega) | (simp at *; omega)) (by first | omega | (simp; done) | (simp; omega) | (simp at *; omega))) (.s (.s (.s (.s .z)))) (.cons (.t rfl) (.cons (.t rfl) .nil)) (by rintro _ _ ⟨_, _, _, _, _, _, rfl⟩; exact ⟨_, rfl⟩) fun r112 B112 hr112 => ?_
                    obtain ⟨v112, d112, h0112, h1112, hd112, rfl, hB⟩ := hr112
                    cases hB
                    refine ⟨⟨([], fun k => List.getD [(true, .none_), (true, .none_), (true, .none_), (true, .none_), _] k (true, .none_)), rfl⟩, ?_⟩
                    show wpB _ _ _ _ _ _ ((113, _) :: (112, _) :: (111, _) :: (110, _) :: (109, _) :: (108, _) :: (107, _) :: (106, _) :: _) _
                    refine .n (.stF (fun y x => { x with A := y }) ty3 (.t rfl) (.t rfl) (.s .z) (fun _ _ => rfl) (.p (.fldW G_api_Step.l2 fd30_2 rfl (.t rfl) (.n (.stF (fun y x => { x with B := y }) ty3 (.t rfl) (.t rfl) (.s .z) (fun _ _ => rfl) (.p (.fldW G_api_Step.l3 fd30_3 rfl (.t rfl) (.n (.stF (fun y x => { x with N := y }) ty3 (.t rfl) (.t rfl) (.s .z) (fun _ _ => rfl) ?_)))))))))
                    refine .nil ?_
                    refine .seq ?_
                    refine .region rfl ?_
                    refine .p (.ldW ty30 (.t rfl) (.s .z) (.n (.stW ty30 (.t rfl) (.t rfl) (.s (.s .z)) ?_)))
                    refine .nil ?_
                    refine .ret ?_
                    refine ⟨_, .r1 rfl (.cell ty30 rfl (.s (.s .z))), ?_⟩
                    refine ⟨_, .cons (.s (.s (.s (.s .z)))) (.nil), ?_⟩
                    dsimp only at *
                    first | (have hh : kk = 2 := (by omega); subst hh) | (have hh : kk = 3 := (by omega); subst hh) | (have hh : kk = 4 := (by omega); subst hh) | (have hh : kk = 5 := (by omega); subst hh) | (have hh : kk = 6 := (by omega); subst hh) | (have hh : kk = 7 := (by omega); subst hh) | (have hh : kk = 8 := (by omega); subst hh) | (have hh : kk = 9 := (by omega); subst hh) | (have hh : kk = 10 := (by omega); subst hh) | (have hh : kk = 11 := (by omega); subst hh) | (have hh : kk = 12 := (by omega); subst hh) | (have hh : kk = 13 := (by omega); subst hh) | (have hh : kk = 14 := (by omega); subst hh) | (have hh : kk = 15 := (by omega); subst hh) | (have hh : kk = 16 := (by omega); subst hh) | (have hh : kk = 17 := (by omega); subst hh) | (have hh : kk = 18 := (by omega); subst hh) | (have hh : kk = 19 := (by omega); subst hh) | (have hh : kk = 20 := (by omega); subst hh) | (have hh : kk = 21 := (by omega); subst hh) | (have hh : kk = 22 := (by omega); subst hh) | (have hh : kk = 1 := (by omega); subst hh) | (exfalso; omega)
                    exact stepD_of ⟨by dsimp only; omega, by dsimp only; omega⟩ (by assumption) rfl (by first | exact zR | exact ⟨by dsimp only; omega, by dsimp only; omega⟩) (by first | exact zR | exact ⟨by dsimp only; omega, by dsimp only; omega⟩) (by first | exact zR | exact ⟨by dsimp only; omega, by dsimp only; omega⟩) (by first | exact zR | exact ⟨by dsimp only; omega, by dsimp only; omega⟩) (by first | exact zR | exact ⟨by dsimp only; omega, by dsimp only; omega⟩) (by first | exact zR | exact ⟨by dsimp only; omega, by dsimp only; omega⟩) (by first | exact zR | exact ⟨by dsimp only; omega, by dsimp only; omega⟩) (by first | assumption | (intro p hp; cases hp)) (by first | assumption | (dsimp only; omega) | (show ((0 : Nat) : Int) ≤ 2; decide)) (fun h => by first | exact Bool.noConfusion (show false = true from h) | rfl | exact (by decide : ∀ x ∈ ([⟨[97, 110, 110]⟩, ⟨[98, 111, 98]⟩, ⟨[100, 97, 110]⟩] : List Str), isLabel x = true) _ (List.getElem_mem _))
                  · refine .seq ?_
                    refine .region rfl ?_
                    refine .p (.eqlI (.t rfl) (.i rfl) (.p (.assign (.t rfl) ?_)))
                    refine .nil ?_
                    refine .condP (.t rfl) (fun hc116 => ?_) (fun hc116 => ?_)
                    · refine .region rfl ?_
                      refine .p (.move (.t rfl) (.p (.fldW G_api_Step.l1 fd30_1 rfl (.t rfl) (.n (.stF (fun y x => { x with A := y }) ty3 (.t rfl) (.t rfl) (.s .z) (fun _ _ => rfl) ?_)))))
                      refine .nil ?_
                      refine .seq ?_
                      refine .region rfl ?_
                      refine .p (.ldW ty30 (.t rfl) (.s .z) (.n (.stW ty30 (.t rfl) (.t rfl) (.s (.s .z)) ?_)))
                      refine .nil ?_
                      refine .ret ?_
                      refine ⟨_, .r1 rfl (.cell ty30 rfl (.s (.s .z))), ?_⟩
                      refine ⟨_, .cons (.s (.s (.s (.s .z)))) (.nil), ?_⟩
                      dsimp only at *
                      first | (have hh : kk = 2 := (by omega); subst hh) | (have hh : kk = 3 := (by omega); subst hh) | (have hh : kk = 4 := (by omega); subst hh) | (have hh : kk = 5 := (by omega); subst hh) | (have hh : kk = 6 := (by omega); subst hh) | (have hh : kk = 7 := (by omega); subst hh) | (have hh : kk = 8 := (by omega); subst hh) | (have hh : kk = 9 := (by omega); subst hh) | (have hh : kk = 10 := (by omega); subst hh) | (have hh : kk = 11 := (by omega); subst hh) | (have hh : kk = 12 := (by omega); subst hh) | (have hh : kk = 13 := (by omega); subst hh) | (have hh : kk = 14 := (by omega); subst hh) | (have hh : kk = 15 := (by omega); subst hh) | (have hh : kk = 16 := (by omega); subst hh) | (have hh : kk = 17 := (by omega); subst hh) | (have hh : kk = 18 := (by omega); subst hh) | (have hh : kk = 19 := (by omega); subst hh) | (have hh : kk = 20 := (by omega); subst hh) | (have hh : kk = 21 := (by omega); subst hh) | (have hh : kk = 22 := (by omega); subst hh) | (have hh : kk = 1 := (by omega); subst hh) | (exfalso; omega)
                      exact stepD_of ⟨by dsimp only; omega, by dsimp only; omega⟩ (by assumption) rfl (by first | exact zR | exact ⟨by dsimp only; omega, by dsimp only; omega⟩) (by first | exact zR | exact ⟨by dsimp only; omega, by dsimp only; omega⟩) (by first | exact zR | exact ⟨by dsimp only; omega, by dsimp only; omega⟩) (by first | exact zR | exact ⟨by dsimp only; omega, by dsimp only; omega⟩) (by first | exact zR | exact ⟨by dsimp only; omega, by dsimp only; omega⟩) (by first | exact zR | exact ⟨by dsimp only; omega, by dsimp only; omega⟩) (by first | exact zR | exact ⟨by dsimp only; omega, by dsimp only; omega⟩) (by first | assumption | (intro p hp; cases hp)) (by first | assumption | (dsimp only; omega) | (show ((0 : Nat) : Int) ≤ 2; decide)) (fun h => by first | exact Bool.noConfusion (show false = true from h) | rfl | exact (by decide : ∀ x ∈ ([⟨[97, 110, 110]⟩, ⟨[98, 111, 98]⟩, ⟨[100, 97, 110]⟩] : List Str), isLabel x = true) _ (List.getElem_mem _))
                    · refine .seq ?_
                      refine .seq ?_
                      refine .region rfl ?_
                      refine .p (.eqlI (.t rfl) (.i rfl) (.p (.assign (.t rfl) ?_)))
                      refine .nil ?_
                      refine .condP (.t rfl) (fun hc120 => ?_) (fun hc120 => ?_)
                      · refine .skip ?_
                        refine .condP (.t rfl) (fun hc120y => ?_) (fun y => absurd hc120 y)
                        refine .region rfl ?_
                        refine .p (.move (.t rfl) (.p (.fldW G_api_Config.l2 fd56_2 rfl (.t rfl) (.p (.ldF (fun x => x.Gates) ty3 (.t rfl) (.s (.s (.s .z))) (fun _ => rfl) (.p (.sub (.t rfl) (.i rfl) (by first | omega | (simp; done) | (simp; omega) | (simp at *; omega)) (by first | omega | (simp; done) | (simp; omega) | (simp at *; omega)) (.h (.callM hG (Range_e _ _ _ _ (by first | assumption | exact deckNew_ok _) (by first | omega | (simp; done) | (simp; omega) | (simp at *; omega)) (by first | omega | (simp; done) | (simp; omega) | (simp at *; omega)) (by first | omega | (simp; done) | (simp; omega) | (simp at *; omega))) (.s (.s (.s (.s .z)))) (.cons (.t rfl) (.cons (.i rfl) (.cons (.t rfl) .nil))) (by rintro _ _ ⟨_, _, _, _, _, _, rfl⟩; exact ⟨_, rfl⟩) fun r127 B127 hr127 => ?_)))))))))
                        obtain ⟨v127, d127, h0127, h1127, hd127, rfl, hB⟩ := hr127
                        cases hB
                        refine .p (.fldW G_api_Step.l1 fd30_1 rfl (.t rfl) (.n (.stF (fun y x => { x with A := y }) ty3 (.t rfl) (.t rfl) (.s .z) (fun _ _ => rfl) ?_)))
                        refine .nil ?_
                        refine .seq ?_
                        refine .region rfl ?_
                        refine .p (.ldW ty30 (.t rfl) (.s .z) (.n (.stW ty30 (.t rfl) (.t rfl) (.s (.s .z)) ?_)))
                        refine .nil ?_
                        refine .ret ?_
                        refine ⟨_, .r1 rfl (.cell ty30 rfl (.s (.s .z))), ?_⟩
                        refine ⟨_, .cons (.s (.s (.s (.s .z)))) (.nil), ?_⟩
                        dsimp only at *
                        first | (have hh : kk = 2 := (by omega); subst hh) | (have hh : kk = 3 := (by omega); subst hh) | (have hh : kk = 4 := (by omega); subst hh) | (have hh : kk = 5 := (by omega); subst hh) | (have hh : kk = 6 := (by omega); subst hh) | (have hh : kk = 7 := (by omega); subst hh) | (have hh : kk = 8 := (by omega); subst hh) | (have hh : kk = 9 := (by omega); subst hh) | (have hh : kk = 10 := (by omega); subst hh) | (have hh : kk = 11 := (by omega); subst hh) | (have hh : kk = 12 := (by omega); subst hh) | (have hh : kk = 13 := (by omega); subst hh) | (have hh : kk = 14 := (by omega); subst hh) | (have hh : kk = 15 := (by omega); subst hh) | (have hh : kk = 16 := (by omega); subst hh) | (have hh : kk = 17 := (by omega); subst hh) | (have hh : kk = 18 := (by omega); subst hh) | (have hh : kk = 19 := (by omega); subst hh) | (have hh : kk = 20 := (by omega); subst hh) | (have hh : kk = 21 := (by omega); subst hh) | (have hh : kk = 22 := (by omega); subst hh) | (have hh : kk = 1 := (by omega); subst hh) | (exfalso; omega)
                        exact stepD_of ⟨by dsimp only; omega, by dsimp only; omega⟩ (by assumption) rfl (by first | exact zR | exact ⟨by dsimp only; omega, by dsimp only; omega⟩) (by first | exact zR | exact ⟨by dsimp only; omega, by dsimp only; omega⟩) (by first | exact zR | exact ⟨by dsimp only; omega, by dsimp only; omega⟩) (by first | exact zR | exact ⟨by dsimp only; omega, by dsimp only; omega⟩) (by first | exact zR | exact ⟨by dsimp only; omega, by dsimp only; omega⟩) (by first | exact zR | exact ⟨by dsimp only; omega, by dsimp only; omega⟩) (by first | exact zR | exact ⟨by dsimp only; omega, by dsimp only; omega⟩) (by first | assumption | (intro p hp; cases hp)) (by first | assumption | (dsimp only; omega) | (show ((0 : Nat) : Int) ≤ 2; decide)) (fun h => by first | exact Bool.noConfusion (show false = true from h) | rfl | exact (by decide : ∀ x ∈ ([⟨[97, 110, 110]⟩, ⟨[98, 111, 98]⟩, ⟨[100, 97, 110]⟩] : List Str), isLabel x = true) _ (List.getElem_mem _))
                      · refine .region rfl ?_
                        refine .p (.eqlI (.t rfl) (.i rfl) (.p (.assign (.t rfl) ?_)))
                        refine .nil ?_
                        refine .condP (.t rfl) (fun hc120 => ?_) (fun hc120 => ?_)
                        · refine .region rfl ?_
                          refine .p (.move (.t rfl) (.p (.fldW G_api_Config.l2 fd56_2 rfl (.t rfl) (.p (.ldF (fun x => x.Gates) ty3 (.t rfl) (.s (.s (.s .z))) (fun _ => rfl) (.p (.sub (.t rfl) (.i rfl) (by first | omega | (simp; done) | (simp; omega) | (simp at *; omega)) (by first | omega | (simp; done) | (simp; omega) | (simp at *; omega)) (.h (.callM hG (Range_e _ _ _ _ (by first | assumption | exact deckNew_ok _) (by first | omega | (simp; done) | (simp; omega) | (simp at *; omega)) (by first | omega | (simp; done) | (simp; omega) | (simp at *; omega)) (by first | omega | (simp; done) | (simp; omega) | (simp at *; omega))) (.s (.s (.s (.s .z)))) (.cons (.t rfl) (.cons (.i rfl) (.cons (.t rfl) .nil))) (by rintro _ _ ⟨_, _, _, _, _, _, rfl⟩; exact ⟨_, rfl⟩) fun r127 B127 hr127 => ?_)))))))))
                          obtain ⟨v127, d127, h0127, h1127, hd127, rfl, hB⟩ := hr127
                          cases hB
                          refine .p (.fldW G_api_Step.l1 fd30_1 rfl (.t rfl) (.n (.stF (fun y x => { x with A := y }) ty3 (.t rfl) (.t rfl) (.s .z) (fun _ _ => rfl) ?_)))
                          refine .nil ?_
                          refine .seq ?_
                          refine .region rfl ?_
                          refine .p (.ldW ty30 (.t rfl) (.s .z) (.n (.stW ty30 (.t rfl) (.t rfl) (.s (.s .z)) ?_)))
                          refine .nil ?_
                          refine .ret ?_
                          refine ⟨_, .r1 rfl (.cell ty30 rfl (.s (.s .z))), ?_⟩
                          refine ⟨_, .cons (.s (.s (.s (.s .z)))) (.nil), ?_⟩
                          dsimp only at *
                          first | (have hh : kk = 2 := (by omega); subst hh) | (have hh : kk = 3 := (by omega); subst hh) | (have hh : kk = 4 := (by omega); subst hh) | (have hh : kk = 5 := (by omega); subst hh) | (have hh : kk = 6 := (by omega); subst hh) | (have hh : kk = 7 := (by omega); subst hh) | (have hh : kk = 8 := (by omega); subst hh) | (have hh : kk = 9 := (by omega); subst hh) | (have hh : kk = 10 := (by omega); subst hh) | (have hh : kk = 11 := (by omega); subst hh) | (have hh : kk = 12 := (by omega); subst hh) | (have hh : kk = 13 := (by omega); subst hh) | (have hh : kk = 14 := (by omega); subst hh) | (have hh : kk = 15 := (by omega); subst hh) | (have hh : kk = 16 := (by omega); subst hh) | (have hh : kk = 17 := (by omega); subst hh) | (have hh : kk = 18 := (by omega); subst hh) | (have hh : kk = 19 := (by omega); subst hh) | (have hh : kk = 20 := (by omega); subst hh) | (have hh : kk = 21 := (by omega); subst hh) | (have hh : kk = 22 := (by omega); subst hh) | (have hh : kk = 1 := (by omega); subst hh) | (exfalso; omega)
                          exact stepD_of ⟨by dsimp only; omega, by dsimp only; omega⟩ (by assumption) rfl (by first | exact zR | exact ⟨by dsimp only; omega, by dsimp only; omega⟩) (by first | exact zR | exact ⟨by dsimp only; omega, by dsimp only; omega⟩) (by first | exact zR | exact ⟨by dsimp only; omega, by dsimp only; omega⟩) (by first | exact zR | exact ⟨by dsimp only; omega, by dsimp only; omega⟩) (by first | exact zR | exact ⟨by dsimp only; omega, by dsimp only; omega⟩) (by first | exact zR | exact ⟨by dsimp only; omega, by dsimp only; omega⟩) (by first | exact zR | exact ⟨by dsimp only; omega, by dsimp only; omega⟩) (by first | assumption | (intro p hp; cases hp)) (by first | assumption | (dsimp only; omega) | (show ((0 : Nat) : Int) ≤ 2; decide)) (fun h => by first | exact Bool.noConfusion (show false = true from h) | rfl | exact (by decide : ∀ x ∈ ([⟨[97, 110, 110]⟩, ⟨[98, 111, 98]⟩, ⟨[100, 97, 110]⟩] : List Str), isLabel x = true) _ (List.getElem_mem _))
                        · refine .seq ?_
                          refine .region rfl ?_
                          refine .p (.eqlI (.t rfl) (.i rfl) (.p (.assign (.t rfl) ?_)))
                          refine .nil ?_
                          refine .condP (.t rfl) (fun hc129 => ?_) (fun hc129 => ?_)
                          · refine .drawCF [false, true, false, false, true] (by kernel_rfl) 13 [[], [], [(132, 1)], [], [], [], [(136, 5), (131, 0)], [], [(137, 7), (133, 2)], [], [(138, 9), (134, 3)], [], [(139, 11), (135, 4)]] [2, 6, 8, 10, 12] rfl (by kernel_rfl) rfl (by kernel_rfl) (by decide) ?_
                            refine ⟨_, fun H => OpP.move (.t rfl) rfl, ?_⟩
                            refine ⟨_, fun H => OpP.move (.t rfl) rfl, ?_⟩
                            refine .inl ?_
                            refine ⟨_, fun H => OpP.move (.t rfl) rfl, ?_⟩
                            refine ⟨_, fun H => OpP.ldW ty28 (.t rfl) (Hole.app .z) rfl, ?_⟩
                            refine ⟨_, fun H => OpP.fldW G_api_Step.l1 fd30_1 rfl (.t rfl) rfl, ?_⟩
                            refine .inl ?_
                            refine ⟨_, fun H => OpP.fldW G_api_Step.l2 fd30_2 rfl (.t rfl) rfl, ?_⟩
                            refine .inl ?_
                            refine ⟨_, fun H => OpP.fldW G_api_Step.l3 fd30_3 rfl (.t rfl) rfl, ?_⟩
                            refine .inl ?_
                            refine ⟨_, fun H => OpP.fldW G_api_Step.l7 fd30_7 rfl (.t rfl) rfl, ?_⟩
                            refine .inl ?_
                            refine ⟨⟨([], fun k => List.getD [(true, .none_), _, (true, .none_), (true, .none_), _] k (true, .none_)), rfl⟩, ?_⟩
                            refine OpH.callM hG (Next_e _ _ _ (by first | assumption | exact deckNew_ok _) (by first | omega | (simp; done) | (simp; omega) | (simp at *; omega)) (by first | omega | (simp; done) | (simp; omega) | (simp at *; omega))) (.s (.s (.s (.s .z)))) (.cons (.t rfl) (.cons (.i rfl) .nil)) (by rintro _ _ ⟨_, _, _, _, _, _, rfl⟩; exact ⟨_, rfl⟩) fun r133 B133 hr133 => ?_
                            obtain ⟨v133, d133, h0133, h1133, hd133, rfl, hB⟩ := hr133
                            cases hB
                            refine ⟨⟨([], fun k => List.getD [(true, .none_), _, (true, .none_), (true, .none_), _] k (true, .none_)), rfl⟩, ?_⟩
                            refine OpH.stF (fun y x => { x with A := y }) ty3 (.t rfl) (.t rfl) (.s .z) (fun _ _ => rfl) ?_
                            refine ⟨⟨([], fun k => List.getD [(true, .none_), _, (true, .none_), (true, .none_), _] k (true, .none_)), rfl⟩, ?_⟩
                            refine OpH.stF (fun y x => { x with B := y }) ty3 (.t rfl) (.t rfl) (.s .z) (fun _ _ => rfl) ?_
                            refine ⟨⟨([], fun k => List.getD [(true, .none_), _, (true, .none_), (true, .none_), _] k (true, .none_)), rfl⟩, ?_⟩
                            refine OpH.stF (fun y x => { x with N := y }) ty3 (.t rfl) (.t rfl) (.s .z) (fun _ _ => rfl) ?_
                            refine ⟨⟨([], fun k => List.getD [(true, .none_), _, (true, .none_), (true, .none_), _] k (true, .none_)), rfl⟩, ?_⟩
                            refine OpH.stF (fun y x => { x with Context := y }) ty28 (.t rfl) (.t rfl) (.s .z) (fun _ _ => rfl) ?_
                            refine ⟨⟨([], fun k => List.getD [(true, .none_), _, (true, .none_), (true, .none_), _] k (true, .none_)), rfl⟩, ?_⟩
                            show wpB _ _ _ _ _ _ ((139, _) :: (138, _) :: (137, _) :: (136, _) :: (135, _) :: (134, _) :: (133, _) :: (132, _) :: (131, _) :: _) _
                            refine .nil ?_
                            refine .seq ?_
                            refine .region rfl ?_
                            refine .p (.ldW ty30 (.t rfl) (.s .z) (.n (.stW ty30 (.t rfl) (.t rfl) (.s (.s .z)) ?_)))
                            refine .nil ?_
                            refine .ret ?_
                            refine ⟨_, .r1 rfl (.cell ty30 rfl (.s (.s .z))), ?_⟩
                            refine ⟨_, .cons (.s (.s (.s (.s .z)))) (.nil), ?_⟩
                            dsimp only at *
                            first | (have hh : kk = 2 := (by omega); subst hh) | (have hh : kk = 3 := (by omega); subst hh) | (have hh : kk = 4 := (by omega); subst hh) | (have hh : kk = 5 := (by omega); subst hh) | (have hh : kk = 6 := (by omega); subst hh) | (have hh : kk = 7 := (by omega); subst hh) | (have hh : kk = 8 := (by omega); subst hh) | (have hh : kk = 9 := (by omega); subst hh) | (have hh : kk = 10 := (by omega); subst hh) | (have hh : kk = 11 := (by omega); subst hh) | (have hh : kk = 12 := (by omega); subst hh) | (have hh : kk = 13 := (by omega); subst hh) | (have hh : kk = 14 := (by omega); subst hh) | (have hh : kk = 15 := (by omega); subst hh) | (have hh : kk = 16 := (by omega); subst hh) | (have hh : kk = 17 := (by omega); subst hh) | (have hh : kk = 18 := (by omega); subst hh) | (have hh : kk = 19 := (by omega); subst hh) | (have hh : kk = 20 := (by omega); subst hh) | (have hh : kk = 21 := (by omega); subst hh) | (have hh : kk = 22 := (by omega); subst hh) | (have hh : kk = 1 := (by omega); subst hh) | (exfalso; omega)
                            exact stepD_of ⟨by dsimp only; omega, by dsimp only; omega⟩ (by assumption) rfl (by first | exact zR | exact ⟨by dsimp only; omega, by dsimp only; omega⟩) (by first | exact zR | exact ⟨by dsimp only; omega, by dsimp only; omega⟩) (by first | exact zR | exact ⟨by dsimp only; omega, by dsimp only; omega⟩) (by first | exact zR | exact ⟨by dsimp only; omega, by dsimp only; omega⟩) (by first | exact zR | exact ⟨by dsimp only; omega, by dsimp only; omega⟩) (by first | exact zR | exact ⟨by dsimp only; omega, by dsimp only; omega⟩) (by first | exact zR | exact ⟨by dsimp only; omega, by dsimp only; omega⟩) (by first | assumption | (intro p hp; cases hp)) (by first | assumption | (dsimp only; omega) | (show ((0 : Nat) : Int) ≤ 2; decide)) (fun h => by first | exact Bool.noConfusion (show false = true from h) | rfl | exact (by decide : ∀ x ∈ ([⟨[97, 110, 110]⟩, ⟨[98, 111, 98]⟩, ⟨[100, 97, 110]⟩] : List Str), isLabel x = true) _ (List.getElem_mem _))
                          · refine .seq ?_
                            refine .seq ?_
                            refine .region rfl ?_
                            refine .p (.eqlI (.t rfl) (.i rfl) (.p (.assign (.t rfl) ?_)))
                            refine .nil ?_
                            refine .condP (.t rfl) (fun hc140 => ?_) (fun hc140 => ?_)
                            · refine .skip ?_
                              refine .condP (.t rfl) (fun hc140y => ?_) (fun y => absurd hc140 y)
                              refine .region rfl ?_
                              refine .p (.move (.t rfl) (.h (.callM hG (Next_e _ _ _ (by first | assumption | exact deckNew_ok _) (by first | omega | (simp; done) | (simp; omega) | (simp at *; omega)) (by first | omega | (simp; done) | (simp; omega) | (simp at *; omega))) (.s (.s (.s (.s .z)))) (.cons (.t rfl) (.cons (.i rfl) .nil)) (by rintro _ _ ⟨_, _, _, _, _, _, rfl⟩; exact ⟨_, rfl⟩) fun r145 B145 hr145 => ?_)))
                              obtain ⟨v145, d145, h0145, h1145, hd145, rfl, hB⟩ := hr145
                              cases hB
                              refine .p (.fldW G_api_Step.l3 fd30_3 rfl (.t rfl) (.n (.stF (fun y x => { x with N := y }) ty3 (.t rfl) (.t rfl) (.s .z) (fun _ _ => rfl) ?_)))
                              refine .nil ?_
                              refine .seq ?_
                              refine .region rfl ?_
                              refine .p (.ldW ty30 (.t rfl) (.s .z) (.n (.stW ty30 (.t rfl) (.t rfl) (.s (.s .z)) ?_)))
                              refine .nil ?_
                              refine .ret ?_
                              refine ⟨_, .r1 rfl (.cell ty30 rfl (.s (.s .z))), ?_⟩
                              refine ⟨_, .cons (.s (.s (.s (.s .z)))) (.nil), ?_⟩
                              dsimp only at *
                              first | (have hh : kk = 2 := (by omega); subst hh) | (have hh : kk = 3 := (by omega); subst hh) | (have hh : kk = 4 := (by omega); subst hh) | (have hh : kk = 5 := (by omega); subst hh) | (have hh : kk = 6 := (by omega); subst hh) | (have hh : kk = 7 := (by omega); subst hh) | (have hh : kk = 8 := (by omega); subst hh) | (have hh : kk = 9 := (by omega); subst hh) | (have hh : kk = 10 := (by omega); subst hh) | (have hh : kk = 11 := (by omega); subst hh) | (have hh : kk = 12 := (by omega); subst hh) | (have hh : kk = 13 := (by omega); subst hh) | (have hh : kk = 14 := (by omega); subst hh) | (have hh : kk = 15 := (by omega); subst hh) | (have hh : kk = 16 := (by omega); subst hh) | (have hh : kk = 17 := (by omega); subst hh) | (have hh : kk = 18 := (by omega); subst hh) | (have hh : kk = 19 := (by omega); subst hh) | (have hh : kk = 20 := (by omega); subst hh) | (have hh : kk = 21 := (by omega); subst hh) | (have hh : kk = 22 := (by omega); subst hh) | (have hh : kk = 1 := (by omega); subst hh) | (exfalso; omega)
                              exact stepD_of ⟨by dsimp only; omega, by dsimp only; omega⟩ (by assumption) rfl (by first | exact zR | exact ⟨by dsimp only; omega, by dsimp only; omega⟩) (by first | exact zR | exact ⟨by dsimp only; omega, by dsimp only; omega⟩) (by first | exact zR | exact ⟨by dsimp only; omega, by dsimp only; omega⟩) (by first | exact zR | exact ⟨by dsimp only; omega, by dsimp only; omega⟩) (by first | exact zR | exact ⟨by dsimp only; omega, by dsimp only; omega⟩) (by first | exact zR | exact ⟨by dsimp only; omega, by dsimp only; omega⟩) (by first | exact zR | exact ⟨by dsimp only; omega, by dsimp only; omega⟩) (by first | assumption | (intro p hp; cases hp)) (by first | assumption | (dsimp only; omega) | (show ((0 : Nat) : Int) ≤ 2; decide)) (fun h => by first | exact Bool.noConfusion (show false = true from h) | rfl | exact (by decide : ∀ x ∈ ([⟨[97, 110, 110]⟩, ⟨[98, 111, 98]⟩, ⟨[100, 97, 110]⟩] : List Str), isLabel x = true) _ (List.getElem_mem _))
                            · refine .seq ?_
                              refine .region rfl ?_
                              refine .p (.eqlI (.t rfl) (.i rfl) (.p (.assign (.t rfl) ?_)))
                              refine .nil ?_
                              refine .condP (.t rfl) (fun hc140 => ?_) (fun hc140 => ?_)
                              · refine .skip ?_
                                refine .condP (.t rfl) (fun hc140y => ?_) (fun y => absurd hc140 y)
                                refine .region rfl ?_
                                refine .p (.move (.t rfl) (.h (.callM hG (Next_e _ _ _ (by first | assumption | exact deckNew_ok _) (by first | omega | (simp; done) | (simp; omega) | (simp at *; omega)) (by first | omega | (simp; done) | (simp; omega) | (simp at *; omega))) (.s (.s (.s (.s .z)))) (.cons (.t rfl) (.cons (.i rfl) .nil)) (by rintro _ _ ⟨_, _, _, _, _, _, rfl⟩; exact ⟨_, rfl⟩) fun r145 B145 hr145 => ?_)))
                                obtain ⟨v145, d145, h0145, h1145, hd145, rfl, hB⟩ := hr145
                                cases hB
                                refine .p (.fldW G_api_Step.l3 fd30_3 rfl (.t rfl) (.n (.stF (fun y x => { x with N := y }) ty3 (.t rfl) (.t rfl) (.s .z) (fun _ _ => rfl) ?_)))
                                refine .nil ?_
                                refine .seq ?_
                                refine .region rfl ?_
                                refine .p (.ldW ty30 (.t rfl) (.s .z) (.n (.stW ty30 (.t rfl) (.t rfl) (.s (.s .z)) ?_)))
                                refine .nil ?_
                                refine .ret ?_
                                refine ⟨_, .r1 rfl (.cell ty30 rfl (.s (.s .z))), ?_⟩
                                refine ⟨_, .cons (.s (.s (.s (.s .z)))) (.nil), ?_⟩
                                dsimp only at *
                                first | (have hh : kk = 2 := (by omega); subst hh) | (have hh : kk = 3 := (by omega); subst hh) | (have hh : kk = 4 := (by omega); subst hh) | (have hh : kk = 5 := (by omega); subst hh) | (have hh : kk = 6 := (by omega); subst hh) | (have hh : kk = 7 := (by omega); subst hh) | (have hh : kk = 8 := (by omega); subst hh) | (have hh : kk = 9 := (by omega); subst hh) | (have hh : kk = 10 := (by omega); subst hh) | (have hh : kk = 11 := (by omega); subst hh) | (have hh : kk = 12 := (by omega); subst hh) | (have hh : kk = 13 := (by omega); subst hh) | (have hh : kk = 14 := (by omega); subst hh) | (have hh : kk = 15 := (by omega); subst hh) | (have hh : kk = 16 := (by omega); subst hh) | (have hh : kk = 17 := (by omega); subst hh) | (have hh : kk = 18 := (by omega); subst hh) | (have hh : kk = 19 := (by omega); subst hh) | (have hh : kk = 20 := (by omega); subst hh) | (have hh : kk = 21 := (by omega); subst hh) | (have hh : kk = 22 := (by omega); subst hh) | (have hh : kk = 1 := (by omega); subst hh) | (exfalso; omega)
                                exact stepD_of ⟨by dsimp only; omega, by dsimp only; omega⟩ (by assumption) rfl (by first | exact zR | exact ⟨by dsimp only; omega, by dsimp only; omega⟩) (by first | exact zR | exact ⟨by dsimp only; omega, by dsimp only; omega⟩) (by first | exact zR | exact ⟨by dsimp only; omega, by dsimp only; omega⟩) (by first | exact zR | exact ⟨by dsimp only; omega, by dsimp only; omega⟩) (by first | exact zR | exact ⟨by dsimp only; omega, by dsimp only; omega⟩) (by first | exact zR | exact ⟨by dsimp only; omega, by dsimp only; omega⟩) (by first | exact zR | exact ⟨by dsimp only; omega, by dsimp only; omega⟩) (by first | assumption | (intro p hp; cases hp)) (by first | assumption | (dsimp only; omega) | (show ((0 : Nat) : Int) ≤ 2; decide)) (fun h => by first | exact Bool.noConfusion (show false = true from h) | rfl | exact (by decide : ∀ x ∈ ([⟨[97, 110, 110]⟩, ⟨[98, 111, 98]⟩, ⟨[100, 97, 110]⟩] : List Str), isLabel x = true) _ (List.getElem_mem _))
                              · refine .region rfl ?_
                                refine .p (.eqlI (.t rfl) (.i rfl) (.p (.assign (.t rfl) ?_)))
                                refine .nil ?_
                                refine .condP (.t rfl) (fun hc140 => ?_) (fun hc140 => ?_)
                                · refine .region rfl ?_
                                  refine .p (.move (.t rfl) (.h (.callM hG (Next_e _ _ _ (by first | assumption | exact deckNew_ok _) (by first | omega | (simp; done) | (simp; omega) | (simp at *; omega)) (by first | omega | (simp; done) | (simp; omega) | (simp at *; omega))) (.s (.s (.s (.s .z)))) (.cons (.t rfl) (.cons (.i rfl) .nil)) (by rintro _ _ ⟨_, _, _, _, _, _, rfl⟩; exact ⟨_, rfl⟩) fun r145 B145 hr145 => ?_)))
                                  obtain ⟨v145, d145, h0145, h1145, hd145, rfl, hB⟩ := hr145
                                  cases hB
                                  refine .p (.fldW G_api_Step.l3 fd30_3 rfl (.t rfl) (.n (.stF (fun y x => { x with N := y }) ty3 (.t rfl) (.t rfl) (.s .z) (fun _ _ => rfl) ?_)))
                                  refine .nil ?_
                                  refine .seq ?_
                                  refine .region rfl ?_
                                  refine .p (.ldW ty30 (.t rfl) (.s .z) (.n (.stW ty30 (.t rfl) (.t rfl) (.s (.s .z)) ?_)))
                                  refine .nil ?_
                                  refine .ret ?_
                                  refine ⟨_, .r1 rfl (.cell ty30 rfl (.s (.s .z))), ?_⟩
                                  refine ⟨_, .cons (.s (.s (.s (.s .z)))) (.nil), ?_⟩
                                  dsimp only at *
                                  first | (have hh : kk = 2 := (by omega); subst hh) | (have hh : kk = 3 := (by omega); subst hh) | (have hh : kk = 4 := (by omega); subst hh) | (have hh : kk = 5 := (by omega); subst hh) | (have hh : kk = 6 := (by omega); subst hh) | (have hh : kk = 7 := (by omega); subst hh) | (have hh : kk = 8 := (by omega); subst hh) | (have hh : kk = 9 := (by omega); subst hh) | (have hh : kk = 10 := (by omega); subst hh) | (have hh : kk = 11 := (by omega); subst hh) | (have hh : kk = 12 := (by omega); subst hh) | (have hh : kk = 13 := (by omega); subst hh) | (have hh : kk = 14 := (by omega); subst hh) | (have hh : kk = 15 := (by omega); subst hh) | (have hh : kk = 16 := (by omega); subst hh) | (have hh : kk = 17 := (by omega); subst hh) | (have hh : kk = 18 := (by omega); subst hh) | (have hh : kk = 19 := (by omega); subst hh) | (have hh : kk = 20 := (by omega); subst hh) | (have hh : kk = 21 := (by omega); subst hh) | (have hh : kk = 22 := (by omega); subst hh) | (have hh : kk = 1 := (by omega); subst hh) | (exfalso; omega)
                                  exact stepD_of ⟨by dsimp only; omega, by dsimp only; omega⟩ (by assumption) rfl (by first | exact zR | exact ⟨by dsimp only; omega, by dsimp only; omega⟩) (by first | exact zR | exact ⟨by dsimp only; omega, by dsimp only; omega⟩) (by first | exact zR | exact ⟨by dsimp only; omega, by dsimp only; omega⟩) (by first | exact zR | exact ⟨by dsimp only; omega, by dsimp only; omega⟩) (by first | exact zR | exact ⟨by dsimp only; omega, by dsimp only; omega⟩) (by first | exact zR | exact ⟨by dsimp only; omega, by dsimp only; omega⟩) (by first | exact zR | exact ⟨by dsimp only; omega, by dsimp only; omega⟩) (by first | assumption | (intro p hp; cases hp)) (by first | assumption | (dsimp only; omega) | (show ((0 : Nat) : Int) ≤ 2; decide)) (fun h => by first | exact Bool.noConfusion (show false = true from h) | rfl | exact (by decide : ∀ x ∈ ([⟨[97, 110, 110]⟩, ⟨[98, 111, 98]⟩, ⟨[100, 97, 110]⟩] : List Str), isLabel x = true) _ (List.getElem_mem _))
                                · refine .seq ?_
                                  refine .region rfl ?_
                                  refine .p (.eqlI (.t rfl) (.i rfl) (.p (.assign (.t rfl) ?_)))
                                  refine .nil ?_
                                  refine .condP (.t rfl) (fun hc147 => ?_) (fun hc147 => ?_)
                                  · refine .region rfl ?_
                                    refine .p (.move (.t rfl) (.h (.callM hG (Next_e _ _ _ (by first | assumption | exact deckNew_ok _) (by first | omega | (simp; done) | (simp; omega) | (simp at *; omega)) (by first | omega | (simp; done) | (simp; omega) | (simp at *; omega))) (.s (.s (.s (.s .z)))) (.cons (.t rfl) (.cons (.i rfl) .nil)) (by rintro _ _ ⟨_, _, _, _, _, _, rfl⟩; exact ⟨_, rfl⟩) fun r150 B150 hr150 => ?_)))
                                    obtain ⟨v150, d150, h0150, h1150, hd150, rfl, hB⟩ := hr150
                                    cases hB
                                    refine .p (.fldW G_api_Step.l3 fd30_3 rfl (.t rfl) (.n (.stF (fun y x => { x with N := y }) ty3 (.t rfl) (.t rfl) (.s .z) (fun _ _ => rfl) ?_)))
                                    refine .nil ?_
                                    refine .seq ?_
                                    refine .region rfl ?_
                                    refine .p (.ldW ty30 (.t rfl) (.s .z) (.n (.stW ty30 (.t rfl) (.t rfl) (.s (.s .z)) ?_)))
                                    refine .nil ?_
                                    refine .ret ?_
                                    refine ⟨_, .r1 rfl (.cell ty30 rfl (.s (.s .z))), ?_⟩
                                    refine ⟨_, .cons (.s (.s (.s (.s .z)))) (.nil), ?_⟩
                                    dsimp only at *
                                    first | (have hh : kk = 2 := (by omega); subst hh) | (have hh : kk = 3 := (by omega); subst hh) | (have hh : kk = 4 := (by omega); subst hh) | (have hh : kk = 5 := (by omega); subst hh) | (have hh : kk = 6 := (by omega); subst hh) | (have hh : kk = 7 := (by omega); subst hh) | (have hh : kk = 8 := (by omega); subst hh) | (have hh : kk = 9 := (by omega); subst hh) | (have hh : kk = 10 := (by omega); subst hh) | (have hh : kk = 11 := (by omega); subst hh) | (have hh : kk = 12 := (by omega); subst hh) | (have hh : kk = 13 := (by omega); subst hh) | (have hh : kk = 14 := (by omega); subst hh) | (have hh : kk = 15 := (by omega); subst hh) | (have hh : kk = 16 := (by omega); subst hh) | (have hh : kk = 17 := (by omega); subst hh) | (have hh : kk = 18 := (by omega); subst hh) | (have hh : kk = 19 := (by omega); subst hh) | (have hh : kk = 20 := (by omega); subst hh) | (have hh : kk = 21 := (by omega); subst hh) | (have hh : kk = 22 := (by omega); subst hh) | (have hh : kk = 1 := (by omega); subst hh) | (exfalso; omega)
                                    exact stepD_of ⟨by dsimp only; omega, by dsimp only; omega⟩ (by assumption) rfl (by first | exact zR | exact ⟨by dsimp only; omega, by dsimp only; omega⟩) (by first | exact zR | exact ⟨by dsimp only; omega, by dsimp only; omega⟩) (by first | exact zR | exact ⟨by dsimp only; omega, by dsimp only; omega⟩) (by first | exact zR | exact ⟨by dsimp only; omega, by dsimp only; omega⟩) (by first | exact zR | exact ⟨by dsimp only; omega, by dsimp only; omega⟩) (by first | exact zR | exact ⟨by dsimp only; omega, by dsimp only; omega⟩) (by first | exact zR | exact ⟨by dsimp only; omega, by dsimp only; omega⟩) (by first | assumption | (intro p hp; cases hp)) (by first | assumption | (dsimp only; omega) | (show ((0 : Nat) : Int) ≤ 2; decide)) (fun h => by first | exact Bool.noConfusion (show false = true from h) | rfl | exact (by decide : ∀ x ∈ ([⟨[97, 110, 110]⟩, ⟨[98, 111, 98]⟩, ⟨[100, 97, 110]⟩] : List Str), isLabel x = true) _ (List.getElem_mem _))
                                  · refine .seq ?_
                                    refine .region rfl ?_
                                    refine .p (.eqlI (.t rfl) (.i rfl) (.p (.assign (.t rfl) ?_)))
                                    refine .nil ?_
                                    refine .condP (.t rfl) (fun hc152 => ?_) (fun hc152 => ?_)
                                    · refine .region rfl ?_
                                      refine .p (.move (.t rfl) (.p (.fldW G_api_Config.l2 fd56_2 rfl (.t rfl) (.p (.ldF (fun x => x.Gates) ty3 (.t rfl) (.s (.s (.s .z))) (fun _ => rfl) (.p (.sub (.t rfl) (.i rfl) (by first | omega | (simp; done) | (simp; omega) | (simp at *; omega)) (by first | omega | (simp; done) | (simp; omega) | (simp at *; omega)) (.h (.callM hG (Range_e _ _ _ _ (by first | assumption | exact deckNew_ok _) (by first | omega | (simp; done) | (simp; omega) | (simp at *; omega)) (by first | omega | (simp; done) | (simp; omega) | (simp at *; omega)) (by first | omega | (simp; done) | (simp; omega) | (simp at *; omega))) (.s (.s (.s (.s .z)))) (.cons (.t rfl) (.cons (.i rfl) (.cons (.t rfl) .nil))) (by rintro _ _ ⟨_, _, _, _, _, _, rfl⟩; exact ⟨_, rfl⟩) fun r158 B158 hr158 => ?_)))))))))
                                      obtain ⟨v158, d158, h0158, h1158, hd158, rfl, hB⟩ := hr158
                                      cases hB
                                      refine .p (.move (.t rfl) (.h (.callM hG (Next_e _ _ _ (by first | assumption | exact deckNew_ok _) (by first | omega | (simp; done) | (simp; omega) | (simp at *; omega)) (by first | omega | (simp; done) | (simp; omega) | (simp at *; omega))) (.s (.s (.s (.s .z)))) (.cons (.t rfl) (.cons (.i rfl) .nil)) (by rintro _ _ ⟨_, _, _, _, _, _, rfl⟩; exact ⟨_, rfl⟩) fun r160 B160 hr160 => ?_)))
                                      obtain ⟨v160, d160, h0160, h1160, hd160, rfl, hB⟩ := hr160
                                      cases hB
                                      refine .p (.fldW G_api_Step.l1 fd30_1 rfl (.t rfl) (.n (.stF (fun y x => { x with A := y }) ty3 (.t rfl) (.t rfl) (.s .z) (fun _ _ => rfl) (.p (.fldW G_api_Step.l3 fd30_3 rfl (.t rfl) (.n (.stF (fun y x => { x with N := y }) ty3 (.t rfl) (.t rfl) (.s .z) (fun _ _ => rfl) ?_)))))))
                                      refine .nil ?_
                                      refine .seq ?_
                                      refine .region rfl ?_
                                      refine .p (.ldW ty30 (.t rfl) (.s .z) (.n (.stW ty30 (.t rfl) (.t rfl) (.s (.s .z)) ?_)))
                                      refine .nil ?_
                                      refine .ret ?_
                                      refine ⟨_, .r1 rfl (.cell ty30 rfl (.s (.s .z))), ?_⟩
                                      refine ⟨_, .cons (.s (.s (.s (.s .z)))) (.nil), ?_⟩
                                      dsimp only at *
                                      first | (have hh : kk = 2 := (by omega); subst hh) | (have hh : kk = 3 := (by omega); subst hh) | (have hh : kk = 4 := (by omega); subst hh) | (have hh : kk = 5 := (by omega); subst hh) | (have hh : kk = 6 := (by omega); subst hh) | (have hh : kk = 7 := (by omega); subst hh) | (have hh : kk = 8 := (by omega); subst hh) | (have hh : kk = 9 := (by omega); subst hh) | (have hh : kk = 10 := (by omega); subst hh) | (have hh : kk = 11 := (by omega); subst hh) | (have hh : kk = 12 := (by omega); subst hh) | (have hh : kk = 13 := (by omega); subst hh) | (have hh : kk = 14 := (by omega); subst hh) | (have hh : kk = 15 := (by omega); subst hh) | (have hh : kk = 16 := (by omega); subst hh) | (have hh : kk = 17 := (by omega); subst hh) | (have hh : kk = 18 := (by omega); subst hh) | (have hh : kk = 19 := (by omega); subst hh) | (have hh : kk = 20 := (by omega); subst hh) | (have hh : kk = 21 := (by omega); subst hh) | (have hh : kk = 22 := (by omega); subst hh) | (have hh : kk = 1 := (by omega); subst hh) | (exfalso; omega)
                                      exact stepD_of ⟨by dsimp only; omega, by dsimp only; omega⟩ (by assumption) rfl (by first | exact zR | exact ⟨by dsimp only; omega, by dsimp only; omega⟩) (by first | exact zR | exact ⟨by dsimp only; omega, by dsimp only; omega⟩) (by first | exact zR | exact ⟨by dsimp only; omega, by dsimp only; omega⟩) (by first | exact zR | exact ⟨by dsimp only; omega, by dsimp only; omega⟩) (by first | exact zR | exact ⟨by dsimp only; omega, by dsimp only; omega⟩) (by first | exact zR | exact ⟨by dsimp only; omega, by dsimp only; omega⟩) (by first | exact zR | exact ⟨by dsimp only; omega, by dsimp only; omega⟩) (by first | assumption | (intro p hp; cases hp)) (by first | assumption | (dsimp only; omega) | (show ((0 : Nat) : Int) ≤ 2; decide)) (fun h => by first | exact Bool.noConfusion (show false = true from h) | rfl | exact (by decide : ∀ x ∈ ([⟨[97, 110, 110]⟩, ⟨[98, 111, 98]⟩, ⟨[100, 97, 110]⟩] : List Str), isLabel x = true) _ (List.getElem_mem _))
                                    · refine .seq ?_
                                      refine .region rfl ?_
                                      refine .p (.eqlI (.t rfl) (.i rfl) (.p (.assign (.t rfl) ?_)))
                                      refine .nil ?_
                                      refine .condP (.t rfl) (fun hc163 => ?_) (fun hc163 => ?_)
                                      · refine .region rfl ?_
                                        refine .p (.move (.t rfl) (.p (.move (.t rfl) (.h (.callM hG (Next_e _ _ _ (by first | assumption | exact deckNew_ok _) (by first | omega | (simp; done) | (simp; omega) | (simp at *; omega)) (by first | omega | (simp; done) | (simp; omega) | (simp at *; omega))) (.s (.s (.s (.s .z)))) (.cons (.t rfl) (.cons (.i rfl) .nil)) (by rintro _ _ ⟨_, _, _, _, _, _, rfl⟩; exact ⟨_, rfl⟩) fun r167 B167 hr167 => ?_)))))
                                        obtain ⟨v167, d167, h0167, h1167, hd167, rfl, hB⟩ := hr167
                                        cases hB
                                        refine .p (.fldW G_api_Step.l1 fd30_1 rfl (.t rfl) (.n (.stF (fun y x => { x with A := y }) ty3 (.t rfl) (.t rfl) (.s .z) (fun _ _ => rfl) (.p (.fldW G_api_Step.l2 fd30_2 rfl (.t rfl) (.n (.stF (fun y x => { x with B := y }) ty3 (.t rfl) (.t rfl) (.s .z) (fun _ _ => rfl) ?_)))))))
                                        refine .nil ?_
                                        refine .seq ?_
                                        refine .region rfl ?_
                                        refine .p (.ldW ty30 (.t rfl) (.s .z) (.n (.stW ty30 (.t rfl) (.t rfl) (.s (.s .z)) ?_)))
                                        refine .nil ?_
                                        refine .ret ?_
                                        refine ⟨_, .r1 rfl (.cell ty30 rfl (.s (.s .z))), ?_⟩
                                        refine ⟨_, .cons (.s (.s (.s (.s .z)))) (.nil), ?_⟩
                                        dsimp only at *
                                        first | (have hh : kk = 2 := (by omega); subst hh) | (have hh : kk = 3 := (by omega); subst hh) | (have hh : kk = 4 := (by omega); subst hh) | (have hh : kk = 5 := (by omega); subst hh) | (have hh : kk = 6 := (by omega); subst hh) | (have hh : kk = 7 := (by omega); subst hh) | (have hh : kk = 8 := (by omega); subst hh) | (have hh : kk = 9 := (by omega); subst hh) | (have hh : kk = 10 := (by omega); subst hh) | (have hh : kk = 11 := (by omega); subst hh) | (have hh : kk = 12 := (by omega); subst hh) | (have hh : kk = 13 := (by omega); subst hh) | (have hh : kk = 14 := (by omega); subst hh) | (have hh : kk = 15 := (by omega); subst hh) | (have hh : kk = 16 := (by omega); subst hh) | (have hh : kk = 17 := (by omega); subst hh) | (have hh : kk = 18 := (by omega); subst hh) | (have hh : kk = 19 := (by omega); subst hh) | (have hh : kk = 20 := (by omega); subst hh) | (have hh : kk = 21 := (by omega); subst hh) | (have hh : kk = 22 := (by omega); subst hh) | (have hh : kk = 1 := (by omega); subst hh) | (exfalso; omega)
                                        exact stepD_of ⟨by dsimp only; omega, by dsimp only; omega⟩ (by assumption) rfl (by first | exact zR | exact ⟨by dsimp only; omega, by dsimp only; omega⟩) (by first | exact zR | exact ⟨by dsimp only; omega, by dsimp only; omega⟩) (by first | exact zR | exact ⟨by dsimp only; omega, by dsimp only; omega⟩) (by first | exact zR | exact ⟨by dsimp only; omega, by dsimp only; omega⟩) (by first | exact zR | exact ⟨by dsimp only; omega, by dsimp only; omega⟩) (by first | exact zR | exact ⟨by dsimp only; omega, by dsimp only; omega⟩) (by first | exact zR | exact ⟨by dsimp only; omega, by dsimp only; omega⟩) (by first | assumption | (intro p hp; cases hp)) (by first | assumption | (dsimp only; omega) | (show ((0 : Nat) : Int) ≤ 2; decide)) (fun h => by first | exact Bool.noConfusion (show false = true from h) | rfl | exact (by decide : ∀ x ∈ ([⟨[97, 110, 110]⟩, ⟨[98, 111, 98]⟩, ⟨[100, 97, 110]⟩] : List Str), isLabel x = true) _ (List.getElem_mem _))
                                      · refine .seq ?_
                                        refine .region rfl ?_
                                        refine .p (.eqlI (.t rfl) (.i rfl) (.p (.assign (.t rfl) ?_)))
                                        refine .nil ?_
                                        refine .condP (.t rfl) (fun hc170 => ?_) (fun hc170 => ?_)
                                        · refine .drawCF [false, true, false, false, true] (by kernel_rfl) 14 [[], [], [(173, 1)], [], [(175, 3)], [], [], [(178, 6), (172, 0)], [], [(179, 8), (174, 2)], [], [(180, 10), (176, 4)], [], [(181, 12), (177, 5)]] [2, 4, 7, 9, 11, 13] rfl (by kernel_rfl) rfl (by kernel_rfl) (by decide) ?_
                                          refine ⟨_, fun H => OpP.move (.t rfl) rfl, ?_⟩
                                          refine ⟨_, fun H => OpP.move (.t rfl) rfl, ?_⟩
                                          refine .inl ?_
                                          refine ⟨_, fun H => OpP.move (.t rfl) rfl, ?_⟩
                                          refine .inl ?_
                                          refine ⟨_, fun H => OpP.ldW ty28 (.t rfl) (Hole.app .z) rfl, ?_⟩
                                          refine ⟨_, fun H => OpP.fldW G_api_Step.l1 fd30_1 rfl (.t rfl) rfl, ?_⟩
                                          refine .inl ?_
                                          refine ⟨_, fun H => OpP.fldW G_api_Step.l2 fd30_2 rfl (.t rfl) rfl, ?_⟩
                                          refine .inl ?_
                                          refine ⟨_, fun H => OpP.fldW G_api_Step.l4 fd30_4 rfl (.t rfl) rfl, ?_⟩
                                          refine .inl ?_
                                          refine ⟨_, fun H => OpP.fldW G_api_Step.l7 fd30_7 rfl (.t rfl) rfl, ?_⟩
                                          refine .inl ?_
                                          refine ⟨⟨([], fun k => List.getD [(true, .none_), _, (true, .none_), (true, .none_), _] k (true, .none_)), rfl⟩, ?_⟩
                                          refine OpH.callM hG (Next_e _ _ _ (by first | assumption | exact deckNew_ok _) (by first | omega | (simp; done) | (simp; omega) | (simp at *; omega)) (by first | omega | (simp; done) | (simp; omega) | (simp at *; omega))) (.s (.s (.s (.s .z)))) (.cons (.t rfl) (.cons (.i rfl) .nil)) (by rintro _ _ ⟨_, _, _, _, _, _, rfl⟩; exact ⟨_, rfl⟩) fun r174 B174 hr174 => ?_
                                          obtain ⟨v174, d174, h0174, h1174, hd174, rfl, hB⟩ := hr174
                                          cases hB
                                          refine ⟨⟨([], fun k => List.getD [(true, .none_), _, (true, .none_), (true, .none_), _] k (true, .none_)), rfl⟩, ?_⟩
                                          refine OpH.callM hG (Wide_deck_c _ _ _ _ (by assumption) (by decide) (by decide) (by decide)) (.s (.s (.s (.s .z)))) (.cons (.t rfl) (.cons (.i rfl) (.cons (.s [97, 110, 110] (by decide) (by decide)) .nil))) (by rintro _ _ ⟨_, _, _, _, _, _, rfl⟩; exact ⟨_, rfl⟩) fun r176 B176 hr176 => ?_
                                          obtain ⟨l176, hl176, hp176, d176, hd176, rfl, hB⟩ := hr176
                                          cases hB
                                          refine ⟨⟨([], fun k => List.getD [(true, .none_), _, (true, .none_), (true, .none_), _] k (true, .none_)), rfl⟩, ?_⟩
                                          refine OpH.stF (fun y x => { x with A := y }) ty3 (.t rfl) (.t rfl) (.s .z) (fun _ _ => rfl) ?_
                                          refine ⟨⟨([], fun k => List.getD [(true, .none_), _, (true, .none_), (true, .none_), _] k (true, .none_)), rfl⟩, ?_⟩
                                          refine OpH.stF (fun y x => { x with B := y }) ty3 (.t rfl) (.t rfl) (.s .z) (fun _ _ => rfl) ?_
                                          refine ⟨⟨([], fun k => List.getD [(true, .none_), _, (true, .none_), (true, .none_), _] k (true, .none_)), rfl⟩, ?_⟩
                                          refine OpH.stF (fun y x => { x with Predicates := y }) ty24 (.t rfl) (.t rfl) (.s .z) (fun _ _ => rfl) ?_
                                          refine ⟨⟨([], fun k => List.getD [(true, .none_), _, (true, .none_), (true, .none_), _] k (true, .none_)), rfl⟩, ?_⟩
                                          refine OpH.stF (fun y x => { x with Context := y }) ty28 (.t rfl) (.t rfl) (.s .z) (fun _ _ => rfl) ?_
                                          refine ⟨⟨([], fun k => List.getD [(true, .none_), _, (true, .none_), (true, .none_), _] k (true, .none_)), rfl⟩, ?_⟩
                                          show wpB _ _ _ _ _ _ ((181, _) :: (180, _) :: (179, _) :: (178, _) :: (177, _) :: (176, _) :: (175, _) :: (174, _) :: (173, _) :: (172, _) :: _) _
                                          refine .nil ?_
                                          refine .seq ?_
                                          refine .region rfl ?_
                                          refine .p (.ldW ty30 (.t rfl) (.s .z) (.n (.stW ty30 (.t rfl) (.t rfl) (.s (.s .z)) ?_)))
                                          refine .nil ?_
                                          refine .ret ?_
                                          refine ⟨_, .r1 rfl (.cell ty30 rfl (.s (.s .z))), ?_⟩
                                          refine ⟨_, .cons (.s (.s (.s (.s .z)))) (.nil), ?_⟩
                                          dsimp only at *
                                          first | (have hh : kk = 2 := (by omega); subst hh) | (have hh : kk = 3 := (by omega); subst hh) | (have hh : kk = 4 := (by omega); subst hh) | (have hh : kk = 5 := (by omega); subst hh) | (have hh : kk = 6 := (by omega); subst hh) | (have hh : kk = 7 := (by omega); subst hh) | (have hh : kk = 8 := (by omega); subst hh) | (have hh : kk = 9 := (by omega); subst hh) | (have hh : kk = 10 := (by omega); subst hh) | (have hh : kk = 11 := (by omega); subst hh) | (have hh : kk = 12 := (by omega); subst hh) | (have hh : kk = 13 := (by omega); subst hh) | (have hh : kk = 14 := (by omega); subst hh) | (have hh : kk = 15 := (by omega); subst hh) | (have hh : kk = 16 := (by omega); subst hh) | (have hh : kk = 17 := (by omega); subst hh) | (have hh : kk = 18 := (by omega); subst hh) | (have hh : kk = 19 := (by omega); subst hh) | (have hh : kk = 20 := (by omega); subst hh) | (have hh : kk = 21 := (by omega); subst hh) | (have hh : kk = 22 := (by omega); subst hh) | (have hh : kk = 1 := (by omega); subst hh) | (exfalso; omega)
                                          exact stepD_of ⟨by dsimp only; omega, by dsimp only; omega⟩ (by assumption) rfl (by first | exact zR | exact ⟨by dsimp only; omega, by dsimp only; omega⟩) (by first | exact zR | exact ⟨by dsimp only; omega, by dsimp only; omega⟩) (by first | exact zR | exact ⟨by dsimp only; omega, by dsimp only; omega⟩) (by first | exact zR | exact ⟨by dsimp only; omega, by dsimp only; omega⟩) (by first | exact zR | exact ⟨by dsimp only; omega, by dsimp only; omega⟩) (by first | exact zR | exact ⟨by dsimp only; omega, by dsimp only; omega⟩) (by first | exact zR | exact ⟨by dsimp only; omega, by dsimp only; omega⟩) (by first | assumption | (intro p hp; cases hp)) (by first | assumption | (dsimp only; omega) | (show ((0 : Nat) : Int) ≤ 2; decide)) (fun h => by first | exact Bool.noConfusion (show false = true from h) | rfl | exact (by decide : ∀ x ∈ ([⟨[97, 110, 110]⟩, ⟨[98, 111, 98]⟩, ⟨[100, 97, 110]⟩] : List Str), isLabel x = true) _ (List.getElem_mem _))
                                        · refine .seq ?_
                                          refine .region rfl ?_
                                          refine .p (.eqlI (.t rfl) (.i rfl) (.p (.assign (.t rfl) ?_)))
                                          refine .nil ?_
                                          refine .condP (.t rfl) (fun hc182 => ?_) (fun hc182 => ?_)
                                          · refine .drawCF [false, true, false, false, true] (by kernel_rfl) 10 [[], [], [(185, 1)], [], [], [(188, 4), (184, 0)], [], [(189, 6), (186, 2)], [], [(190, 8), (187, 3)]] [2, 5, 7, 9] rfl (by kernel_rfl) rfl (by kernel_rfl) (by decide) ?_
                                            refine ⟨_, fun H => OpP.move (.t rfl) rfl, ?_⟩
                                            refine ⟨_, fun H => OpP.move (.t rfl) rfl, ?_⟩
                                            refine .inl ?_
                                            refine ⟨_, fun H => OpP.ldW ty28 (.t rfl) (Hole.app .z) rfl, ?_⟩
                                            refine ⟨_, fun H => OpP.fldW G_api_Step.l1 fd30_1 rfl (.t rfl) rfl, ?_⟩
                                            refine .inl ?_
                                            refine ⟨_, fun H => OpP.fldW G_api_Step.l2 fd30_2 rfl (.t rfl) rfl, ?_⟩
                                            refine .inl ?_
                                            refine ⟨_, fun H => OpP.fldW G_api_Step.l7 fd30_7 rfl (.t rfl) rfl, ?_⟩
                                            refine .inl ?_
                                            refine ⟨⟨([], fun k => List.getD [(true, .none_), _, (true, .none_), (true, .none_), _] k (true, .none_)), rfl⟩, ?_⟩
                                            refine OpH.callM hG (Next_e _ _ _ (by first | assumption | exact deckNew_ok _) (by first | omega | (simp; done) | (simp; omega) | (simp at *; omega)) (by first | omega | (simp; done) | (simp; omega) | (simp at *; omega))) (.s (.s (.s (.s .z)))) (.cons (.t rfl) (.cons (.i rfl) .nil)) (by rintro _ _ ⟨_, _, _, _, _, _, rfl⟩; exact ⟨_, rfl⟩) fun r186 B186 hr186 => ?_
                                            obtain ⟨v186, d186, h0186, h1186, hd186, rfl, hB⟩ := hr186
                                            cases hB
                                            refine ⟨⟨([], fun k => List.getD [(true, .none_), _, (true, .none_), (true, .none_), _] k (true, .none_)), rfl⟩, ?_⟩
                                            refine OpH.stF (fun y x => { x with A := y }) ty3 (.t rfl) (.t rfl) (.s .z) (fun _ _ => rfl) ?_
                                            refine ⟨⟨([], fun k => List.getD [(true, .none_), _, (true, .none_), (true, .none_), _] k (true, .none_)), rfl⟩, ?_⟩
                                            refine OpH.stF (fun y x => { x with B := y }) ty3 (.t rfl) (.t rfl) (.s .z) (fun _ _ => rfl) ?_
                                            refine ⟨⟨([], fun k => List.getD [(true, .none_), _, (true, .none_), (true, .none_), _] k (true, .none_)), rfl⟩, ?_⟩
                                            refine OpH.stF (fun y x => { x with Context := y }) ty28 (.t rfl) (.t rfl) (.s .z) (fun _ _ => rfl) ?_
                                            refine ⟨⟨([], fun k => List.getD [(true, .none_), _, (true, .none_), (true, .none_), _] k (true, .none_)), rfl⟩, ?_⟩
                                            show wpB _ _ _ _ _ _ ((190, _) :: (189, _) :: (188, _) :: (187, _) :: (186, _) :: (185, _) :: (184, _) :: _) _
                                            refine .nil ?_
                                            refine .seq ?_
                                            refine .region rfl ?_
                                            refine .p (.ldW ty30 (.t rfl) (.s .z) (.n (.stW ty30 (.t rfl) (.t rfl) (.s (.s .z)) ?_)))
                                            refine .nil ?_
                                            refine .ret ?_
                                            refine ⟨_, .r1 rfl (.cell ty30 rfl (.s (.s .z))), ?_⟩
                                            refine ⟨_, .cons (.s (.s (.s (.s .z)))) (.nil), ?_⟩
                                            dsimp only at *
                                            first | (have hh : kk = 2 := (by omega); subst hh) | (have hh : kk = 3 := (by omega); subst hh) | (have hh : kk = 4 := (by omega); subst hh) | (have hh : kk = 5 := (by omega); subst hh) | (have hh : kk = 6 := (by omega); subst hh) | (have hh : kk = 7 := (by omega); subst hh) | (have hh : kk = 8 := (by omega); subst hh) | (have hh : kk = 9 := (by omega); subst hh) | (have hh : kk = 10 := (by omega); subst hh) | (have hh : kk = 11 := (by omega); subst hh) | (have hh : kk = 12 := (by omega); subst hh) | (have hh : kk = 13 := (by omega); subst hh) | (have hh : kk = 14 := (by omega); subst hh) | (have hh : kk = 15 := (by omega); subst hh) | (have hh : kk = 16 := (by omega); subst hh) | (have hh : kk = 17 := (by omega); subst hh) | (have hh : kk = 18 := (by omega); subst hh) | (have hh : kk = 19 := (by omega); subst hh) | (have hh : kk = 20 := (by omega); subst hh) | (have hh : kk = 21 := (by omega); subst hh) | (have hh : kk = 22 := (by omega); subst hh) | (have hh : kk = 1 := (by omega); subst hh) | (exfalso; omega)
                                            exact stepD_of ⟨by dsimp only; omega, by dsimp only; omega⟩ (by assumption) rfl (by first | exact zR | exact ⟨by dsimp only; omega, by dsimp only; omega⟩) (by first | exact zR | exact ⟨by dsimp only; omega, by dsimp only; omega⟩) (by first | exact zR | exact ⟨by dsimp only; omega, by dsimp only; omega⟩) (by first | exact zR | exact ⟨by dsimp only; omega, by dsimp only; omega⟩) (by first | exact zR | exact ⟨by dsimp only; omega, by dsimp only; omega⟩) (by first | exact zR | exact ⟨by dsimp only; omega, by dsimp only; omega⟩) (by first | exact zR | exact ⟨by dsimp only; omega, by dsimp only; omega⟩) (by first | assumption | (intro p hp; cases hp)) (by first | assumption | (dsimp only; omega) | (show ((0 : Nat) : Int) ≤ 2; decide)) (fun h => by first | exact Bool.noConfusion (show false = true from h) | rfl | exact (by decide : ∀ x ∈ ([⟨[97, 110, 110]⟩, ⟨[98, 111, 98]⟩, ⟨[100, 97, 110]⟩] : List Str), isLabel x = true) _ (List.getElem_mem _))
                                          · refine .seq ?_
                                            refine .region rfl ?_
                                            refine .p (.eqlI (.t rfl) (.i rfl) (.p (.assign (.t rfl) ?_)))
                                            refine .nil ?_
                                            refine .condP (.t rfl) (fun hc191 => ?_) (fun hc191 => ?_)
                                            · refine .region rfl ?_
                                              refine .p (.move (.t rfl) (.p (.move (.t rfl) (.h (.callM hG (Next_e _ _ _ (by first | assumption | exact deckNew_ok _) (by first | omega | (simp; done) | (simp; omega) | (simp at *; omega)) (by first | omega | (simp; done) | (simp; omega) | (simp at *; omega))) (.s (.s (.s (.s .z)))) (.cons (.t rfl) (.cons (.i rfl) .nil)) (by rintro _ _ ⟨_, _, _, _, _, _, rfl⟩; exact ⟨_, rfl⟩) fun r195 B195 hr195 => ?_)))))
                                              obtain ⟨v195, d195, h0195, h1195, hd195, rfl, hB⟩ := hr195
                                              cases hB
                                              refine .p (.move (.t rfl) (.h (.callM hG (Next_e _ _ _ (by first | assumption | exact deckNew_ok _) (by first | omega | (simp; done) | (simp; omega) | (simp at *; omega)) (by first | omega | (simp; done) | (simp; omega) | (simp at *; omega))) (.s (.s (.s (.s .z)))) (.cons (.t rfl) (.cons (.i rfl) .nil)) (by rintro _ _ ⟨_, _, _, _, _, _, rfl⟩; exact ⟨_, rfl⟩) fun r197 B197 hr197 => ?_)))
                                              obtain ⟨v197, d197, h0197, h1197, hd197, rfl, hB⟩ := hr197
                                              cases hB
                                              refine .p (.fldW G_api_Step.l1 fd30_1 rfl (.t rfl) (.n (.stF (fun y x => { x with A := y }) ty3 (.t rfl) (.t rfl) (.s .z) (fun _ _ => rfl) (.p (.fldW G_api_Step.l2 fd30_2 rfl (.t rfl) (.n (.stF (fun y x => { x with B := y }) ty3 (.t rfl) (.t rfl) (.s .z) (fun _ _ => rfl) (.p (.fldW G_api_Step.l3 fd30_3 rfl (.t rfl) (.n (.stF (fun y x => { x with N := y }) ty3 (.t rfl) (.t rfl) (.s .z) (fun _ _ => rfl) ?_)))))))))))
                                              refine .nil ?_
                                              refine .seq ?_
                                              refine .region rfl ?_
                                              refine .p (.ldW ty30 (.t rfl) (.s .z) (.n (.stW ty30 (.t rfl) (.t rfl) (.s (.s .z)) ?_)))
                                              refine .nil ?_
                                              refine .ret ?_
                                              refine ⟨_, .r1 rfl (.cell ty30 rfl (.s (.s .z))), ?_⟩
                                              refine ⟨_, .cons (.s (.s (.s (.s .z)))) (.nil), ?_⟩
                                              dsimp only at *
                                              first | (have hh : kk = 2 := (by omega); subst hh) | (have hh : kk = 3 := (by omega); subst hh) | (have hh : kk = 4 := (by omega); subst hh) | (have hh : kk = 5 := (by omega); subst hh) | (have hh : kk = 6 := (by omega); subst hh) | (have hh : kk = 7 := (by omega); subst hh) | (have hh : kk = 8 := (by omega); subst hh) | (have hh : kk = 9 := (by omega); subst hh) | (have hh : kk = 10 := (by omega); subst hh) | (have hh : kk = 11 := (by omega); subst hh) | (have hh : kk = 12 := (by omega); subst hh) | (have hh : kk = 13 := (by omega); subst hh) | (have hh : kk = 14 := (by omega); subst hh) | (have hh : kk = 15 := (by omega); subst hh) | (have hh : kk = 16 := (by omega); subst hh) | (have hh : kk = 17 := (by omega); subst hh) | (have hh : kk = 18 := (by omega); subst hh) | (have hh : kk = 19 := (by omega); subst hh) | (have hh : kk = 20 := (by omega); subst hh) | (have hh : kk = 21 := (by omega); subst hh) | (have hh : kk = 22 := (by omega); subst hh) | (have hh : kk = 1 := (by omega); subst hh) | (exfalso; omega)
                                              exact stepD_of ⟨by dsimp only; omega, by dsimp only; omega⟩ (by assumption) rfl (by first | exact zR | exact ⟨by dsimp only; omega, by dsimp only; omega⟩) (by first | exact zR | exact ⟨by dsimp only; omega, by dsimp only; omega⟩) (by first | exact zR | exact ⟨by dsimp only; omega, by dsimp only; omega⟩) (by first | exact zR | exact ⟨by dsimp only; omega, by dsimp only; omega⟩) (by first | exact zR | exact ⟨by dsimp only; omega, by dsimp only; omega⟩) (by first | exact zR | exact ⟨by dsimp only; omega, by dsimp only; omega⟩) (by first | exact zR | exact ⟨by dsimp only; omega, by dsimp only; omega⟩) (by first | assumption | (intro p hp; cases hp)) (by first | assumption | (dsimp only; omega) | (show ((0 : Nat) : Int) ≤ 2; decide)) (fun h => by first | exact Bool.noConfusion (show false = true from h) | rfl | exact (by decide : ∀ x ∈ ([⟨[97, 110, 110]⟩, ⟨[98, 111, 98]⟩, ⟨[100, 97, 110]⟩] : List Str), isLabel x = true) _ (List.getElem_mem _))
                                            · refine .skip ?_
                                              refine .seq ?_
                                              refine .region rfl ?_
                                              refine .p (.ldW ty30 (.t rfl) (.s .z) (.n (.stW ty30 (.t rfl) (.t rfl) (.s (.s .z)) ?_)))
                                              refine .nil ?_
                                              refine .ret ?_
                                              refine ⟨_, .r1 rfl (.cell ty30 rfl (.s (.s .z))), ?_⟩
                                              refine ⟨_, .cons (.s (.s (.s (.s .z)))) (.nil), ?_⟩
                                              dsimp only at *
                                              first | (have hh : kk = 2 := (by omega); subst hh) | (have hh : kk = 3 := (by omega); subst hh) | (have hh : kk = 4 := (by omega); subst hh) | (have hh : kk = 5 := (by omega); subst hh) | (have hh : kk = 6 := (by omega); subst hh) | (have hh : kk = 7 := (by omega); subst hh) | (have hh : kk = 8 := (by omega); subst hh) | (have hh : kk = 9 := (by omega); subst hh) | (have hh : kk = 10 := (by omega); subst hh) | (have hh : kk = 11 := (by omega); subst hh) | (have hh : kk = 12 := (by omega); subst hh) | (have hh : kk = 13 := (by omega); subst hh) | (have hh : kk = 14 := (by omega); subst hh) | (have hh : kk = 15 := (by omega); subst hh) | (have hh : kk = 16 := (by omega); subst hh) | (have hh : kk = 17 := (by omega); subst hh) | (have hh : kk = 18 := (by omega); subst hh) | (have hh : kk = 19 := (by omega); subst hh) | (have hh : kk = 20 := (by omega); subst hh) | (have hh : kk = 21 := (by omega); subst hh) | (have hh : kk = 22 := (by omega); subst hh) | (have hh : kk = 1 := (by omega); subst hh) | (exfalso; omega)
                                              exact stepD_of ⟨by dsimp only; omega, by dsimp only; omega⟩ (by assumption) rfl (by first | exact zR | exact ⟨by dsimp only; omega, by dsimp only; omega⟩) (by first | exact zR | exact ⟨by dsimp only; omega, by dsimp only; omega⟩) (by first | exact zR | exact ⟨by dsimp only; omega, by dsimp only; omega⟩) (by first | exact zR | exact ⟨by dsimp only; omega, by dsimp only; omega⟩) (by first | exact zR | exact ⟨by dsimp only; omega, by dsimp only; omega⟩) (by first | exact zR | exact ⟨by dsimp only; omega, by dsimp only; omega⟩) (by first | exact zR | exact ⟨by dsimp only; omega, by dsimp only; omega⟩) (by first | assumption | (intro p hp; cases hp)) (by first | assumption | (dsimp only; omega) | (show ((0 : Nat) : Int) ≤ 2; decide)) (fun h => by first | exact Bool.noConfusion (show false = true from h) | rfl | exact (by decide : ∀ x ∈ ([⟨[97, 110, 110]⟩, ⟨[98, 111, 98]⟩, ⟨[100, 97, 110]⟩] : List Str), isLabel x = true) _ (List.getElem_mem _))
theorem stepD_first {l : List Pred} (hp : ∀ p ∈ l, predOk p = true) (hl : (l.length : Int) ≤ 2) : ∀ s ∈ ([⟨1, 0, 0, 0, [], default, ⟨[]⟩, default⟩, ⟨5, 0, 0, 1, [], default, ⟨[]⟩, default⟩, ⟨12, 0, 0, 0, [], default, ⟨[]⟩, default⟩, ⟨3, 0, 0, 0, l, default, ⟨[]⟩, default⟩, ⟨10, 0, 0, 0, [], default, ⟨[]⟩, default⟩] : List Step), StepD s := by
  have key : ∀ (k n : Int) (q : List Pred), 1 ≤ k ∧ k < 23 → inR n → extraS (⟨k, 0, 0, n, q, default, ⟨[]⟩, default⟩ : Step) = false → khl k = false → (∀ p ∈ q, predOk p = true) → (q.length : Int) ≤ 2 → StepD (⟨k, 0, 0, n, q, default, ⟨[]⟩, default⟩ : Step) := fun k n q hk hn hf hh hq hql =>
    ⟨line_ok hk ⟨hf, num_all zR zR hn zR zR zR zR, hq, fun h => by rw [show khl k = true from h] at hh; cases hh⟩, by show q.length ≤ 2; omega⟩
  intro s hs
  simp only [List.mem_cons, List.not_mem_nil, or_false] at hs
  rcases hs with rfl | rfl | rfl | rfl | rfl
  · exact key 1 0 [] ⟨by decide, by decide⟩ zR rfl rfl (by simp) (by simp)
  · exact key 5 1 [] ⟨by decide, by decide⟩ ⟨by decide, by decide⟩ rfl rfl (by simp) (by simp)
  · exact key 12 0 [] ⟨by decide, by decide⟩ zR rfl rfl (by simp) (by simp)
  · exact key 3 0 l ⟨by decide, by decide⟩ zR rfl rfl hp hl
  · exact key 10 0 [] ⟨by decide, by decide⟩ zR rfl rfl (by simp) (by simp)
theorem stepD_mem {l : List Step} {s : Step} (h : ∀ q ∈ l, StepD q) (hs : StepD s) : ∀ q ∈ l ++ [s], StepD q := fun q hq => by
  rcases List.mem_append.1 hq with h' | h'
  · exact h q h'
  · rw [List.mem_singleton.1 h']; exact hs
theorem Steps_deck_c (w : Value) (d : G_macaroonmade_Deck) (c : G_api_Config) (n : Int) (hd : DeckOk d) (hc : CfgOk c) (h0 : 0 ≤ n) (h1 : n ≤ 1000) : FunH gl Tryz.prog 16 [dk w, .v c, .v n] [.ob w d] (fun r Hs => ∃ l : List Step, (l.length : Int) ≤ 5 + n ∧ 5 ≤ l.length ∧ (∀ s ∈ l, StepD s) ∧ ∃ d', DeckOk d' ∧ r = .v l ∧ Hs = [.ob w d']) := by
  refine FunH.introD Tryz.func16 rfl (by kernel_rfl) 32 rfl rfl _ rfl _ rfl fun C hC hG => ?_
  refine .seq ?_
  refine .region rfl ?_
  refine .h (.box (.t rfl) fun b4 => .p (.assign (.nilS (α := G_api_Step)) ?_))
  refine .nil ?_
  refine .seq ?_
  refine .region rfl ?_
  refine .p (.bS1 G_api_Step.l0 rfl ty30 fo30 (fun c0 => (⟨c0, 0, 0, 0, [], default, ⟨[]⟩, default⟩ : G_api_Step)) (fun _ => rfl) rfl rfl (.i rfl) (.p (.bS2 G_api_Step.l0 G_api_Step.l3 rfl ty30 fo30 (fun c0 c3 => (⟨c0, 0, 0, c3, [], default, ⟨[]⟩, default⟩ : G_api_Step)) (fun _ _ => rfl) rfl rfl rfl (.i rfl) (.i rfl) (.p (.bS1 G_api_Step.l0 rfl ty30 fo30 (fun c0 => (⟨c0, 0, 0, 0, [], default, ⟨[]⟩, default⟩ : G_api_Step)) (fun _ => rfl) rfl rfl (.i rfl) (.p (.move (.t rfl) (.h (.callM hG (Wide_deck_c _ _ _ _ (by assumption) (by decide) (by decide) (by decide)) (.s .z) (.cons (.t rfl) (.cons (.i rfl) (.cons (.s [97, 110, 110] (by decide) (by decide)) .nil))) (by rintro _ _ ⟨_, _, _, _, _, _, rfl⟩; exact ⟨_, rfl⟩) fun r13 B13 hr13 => ?_)))))))))
  obtain ⟨l13, hl13, hp13, d13, hd13, rfl, hB⟩ := hr13
  cases hB
  refine .p (.bS2 G_api_Step.l0 G_api_Step.l4 rfl ty30 fo30 (fun c0 c4 => (⟨c0, 0, 0, 0, c4, default, ⟨[]⟩, default⟩ : G_api_Step)) (fun _ _ => rfl) rfl rfl rfl (.i rfl) (.t rfl) (.p (.bS1 G_api_Step.l0 rfl ty30 fo30 (fun c0 => (⟨c0, 0, 0, 0, [], default, ⟨[]⟩, default⟩ : G_api_Step)) (fun _ => rfl) rfl rfl (.i rfl) (.h (.buildSlice (α := G_api_Step) ty30 Tryz.underlying22 (.cons (.t rfl) (.cons (.t rfl) (.cons (.t rfl) (.cons (.t rfl) (.cons (.t rfl) .nil))))) rfl (by decide) fun b16 => .p (.assign (.t rfl) ?_))))))
  refine .nil ?_
  refine .seq ?_
  refine .seq ?_
  refine .region rfl ?_
  refine .p (.move (.t rfl) (.p (.move (.t rfl) (.p (.add (.t rfl) (.i rfl) (by first | omega | (simp; done) | (simp; omega) | (simp at *; omega)) (by first | omega | (simp; done) | (simp; omega) | (simp at *; omega)) (.h (.callM hG (Next_e _ _ _ (by first | assumption | exact deckNew_ok _) (by first | omega | (simp; done) | (simp; omega) | (simp at *; omega)) (by first | omega | (simp; done) | (simp; omega) | (simp at *; omega))) (.s (.s .z)) (.cons (.t rfl) (.cons (.t rfl) .nil)) (by rintro _ _ ⟨_, _, _, _, _, _, rfl⟩; exact ⟨_, rfl⟩) fun r20 B20 hr20 => ?_)))))))
  obtain ⟨v20, d20, h020, h120, hd20, rfl, hB⟩ := hr20
  cases hB
  refine .p (.assign (.t rfl) ?_)
  refine .nil ?_
  refine .block ?_
  refine .loopR (α := Nat × Value × List Step × G_macaroonmade_Deck) [(0, _), (4, _)] (fun x R => (7, .raw x.2.1) :: (8, .v (x.1 : Int)) :: R) (fun x => [(true, .own 30 x.2.1 x.2.2.1), (true, .ob (ptr b4 0) c), (false, .ob w x.2.2.2)]) (fun x => (x.1 : Int) + x.2.2.1.length ≤ 5 + n ∧ 5 ≤ x.2.2.1.length ∧ DeckOk x.2.2.2 ∧ ∀ p ∈ x.2.2.1, StepD p) (fun x => x.1) ((v20.toNat, _, _, d20)) (.cons rfl (.cons rfl (.nil _))) ?_ (.cons rfl (.cons (congrArg (fun q => some (AV.v q)) (by dsimp only; omega)) (.cons rfl (.cons rfl (.nil _))))) (rfl) fun x hF => ?_
  · exact ⟨by dsimp only; simp; omega, by simp, by assumption, stepD_first hp13 hl13⟩
  obtain ⟨k, v, b, e⟩ := x
  obtain ⟨h2, h5, h3, h4⟩ := hF
  dsimp only at h2 h5 h3 h4 ⊢
  refine .seq ?_
  refine .seq ?_
  refine .region rfl ?_
  refine .p (.move (.t rfl) (.p (.gtr (.t rfl) (.i rfl) ?_)))
  refine .nil ?_
  refine .condP (.t rfl) (fun hc22 => ?_) (fun hc22 => ?_)
  · refine .skip ?_
    refine .seq ?_
    refine .block ?_
    refine .region rfl ?_
    refine .p (.move (.t rfl) (.p (.move (.t rfl) (.p (.ldW ty56 (.t rfl) (.s .z) (.h (.callM hG (Step_deck_c _ _ _ (by assumption) hc) (.s (.s .z)) (.cons (.t rfl) (.cons (.t rfl) .nil)) (by rintro _ _ ⟨_, _, _, _, _, rfl⟩; exact ⟨_, rfl⟩) fun r28 B28 hr28 => ?_)))))))
    obtain ⟨s28, hs28, d28, hd28, rfl, hB⟩ := hr28
    cases hB
    refine .h (.buildSlice (α := G_api_Step) ty30 Tryz.underlying22 (.cons (.t rfl) .nil) rfl (by decide) fun b29 => .h (.append st22 (.inl ⟨_, Tryz.underlying22⟩) rfl (.s .z) (.own rfl .z) (by first | omega | (simp; done) | (simp; omega) | (simp at *; omega)) (by first | omega | (simp; done) | (simp; omega) | (simp at *; omega)) (fun w30 => .p (.assign (.t rfl) ?_)) rfl))
    refine .drop ?_
    refine .nil ?_
    refine .region rfl ?_
    refine .p (.move (.t rfl) (.p (.sub (.t rfl) (.i rfl) (by first | omega | (simp; done) | (simp; omega) | (simp at *; omega)) (by first | omega | (simp; done) | (simp; omega) | (simp at *; omega)) (.p (.assign (.t rfl) ?_)))))
    refine .nil ?_
    refine ⟨(k - 1, _, _, _), .cons rfl (.cons (congrArg (fun q => some (AV.v q)) (by dsimp only; omega)) (.cons rfl (.cons rfl (.nil _)))), rfl, ?_, by dsimp only; omega⟩
    exact ⟨by dsimp only; simp; omega, by dsimp only; simp; omega, by assumption, stepD_mem h4 hs28⟩
  · refine .exit ?_
    refine .seq ?_
    refine .frzOwn hC .z ?_
    refine .as 7 rfl .z ?_
    refine .region rfl ?_
    refine .p (.move (.t rfl) (.p (.assign (.t rfl) ?_)))
    refine .nil ?_
    refine .ret ?_
    refine ⟨_, .r1 rfl (.tmp rfl), ?_⟩
    exact ⟨2, b, by omega, h5, h4, e, h3, rfl, rfl⟩
end Go.Proofs.YtfkbejimghamkaaGreatDoor
set_option maxRecDepth 1000000
set_option linter.unusedVariables false
set_option linter.unusedSimpArgs false
namespace Go.Proofs.YtfkbejimghamkaaGreatDoor
open Go.Fl Go.Ab Go.Mac Go.Sha Go.Lib
theorem nums_no10 (k : Nat) (l : List Int) : ∀ x ∈ numsS (swL.getD k []) l, x ≠ 10 := by
  intro x hx
  rw [nums_join] at hx
  rcases joinC_mem _ _ _ hx with rfl | ⟨a, h1, h2⟩
  · decide
  · rcases List.mem_cons.1 h1 with rfl | h1
    · exact sw_no k (by decide) x h2
    · obtain ⟨n, _, rfl⟩ := List.mem_map.1 h1
      exact itoa_no n (by decide) (by decide) x h2
theorem wordL_no10 (k : Int) : ∀ x ∈ wordL k, x ≠ 10 := by
  intro x hx
  unfold wordL at hx
  repeat' split at hx
  all_goals (revert x; decide)
theorem text_no10 {p : Pred} (h : predOk p = true) : ∀ x ∈ textL p, x ≠ 10 := by
  intro x hx
  unfold textL at hx
  rcases List.mem_append.1 hx with hx | hx
  · exact wordL_no10 _ x hx
  rcases List.mem_cons.1 hx with rfl | hx
  · decide
  have hd : ∀ n, ∀ x ∈ decDigits n, x ≠ 10 := fun n => dec_no n (by decide)
  unfold bodyL at hx
  split at hx
  · rcases List.mem_append.1 hx with hx | hx
    · exact hd _ x hx
    · rcases List.mem_cons.1 hx with rfl | hx
      · decide
      · exact hd _ x hx
  split at hx
  · rename_i h6
    unfold predOk at h
    rw [h6] at h
    simp at h
    exact label_no h.1 (by decide) x hx
  split at hx
  · exact hd _ x hx
  · rcases joinC_mem _ _ _ hx with rfl | ⟨a, h1, h2⟩
    · decide
    · unfold listL at h1
      obtain ⟨i, _, rfl⟩ := List.mem_map.1 h1
      exact hd _ x h2
theorem line_no10 {s : Step} (h : StepOk s) : ∀ x ∈ lineT s, x ≠ 10 := by
  intro x hx
  rw [lineT_eq (rest_eq h.full), rest_eq h.full] at hx
  rcases List.mem_append.1 hx with hx | hx
  · rcases List.mem_append.1 hx with hx | hx
    · exact nums_no10 _ _ x hx
    · unfold tailP Lib.joinTail at hx
      obtain ⟨a, h1, h2⟩ := List.mem_flatten.1 hx
      obtain ⟨b, h3, rfl⟩ := List.mem_map.1 h1
      obtain ⟨p, hp, rfl⟩ := List.mem_map.1 h3
      rcases List.mem_append.1 h2 with h2 | h2
      · exact (by decide : ∀ x ∈ ([59, 32] : List UInt8), x ≠ 10) x h2
      · exact text_no10 (h.pred p hp) x h2
  · split at hx
    · rename_i hk
      rcases List.mem_cons.1 hx with rfl | hx
      · decide
      · rcases List.mem_cons.1 hx with rfl | hx
        · decide
        · exact label_no (h.name hk) (by decide) x hx
    · cases hx
theorem stepD_ok {s : Step} (h : StepD s) : StepOk s := checkS_ok (lineF_ok h.line).2.1
theorem lineT_small {s : Step} (h : StepD s) : (lineT s).length ≤ 516 := by
  have ho := stepD_ok h
  have h1 := numsS_len (swL.getD s.Kind.toNat []) (valsS s) ho.num (valsS s).length (Nat.le_refl _)
  rw [List.take_length] at h1
  have h2 := sw_len s.Kind.toNat
  have h3 := kfl_len s.Kind
  have h4 := vals_len s
  have h5 := tailP_len s.Predicates ho.pred s.Predicates.length (Nat.le_refl _)
  rw [List.take_length] at h5
  have h6 := h.preds
  rw [lineT_eq (rest_eq ho.full), rest_eq ho.full, List.length_append, List.length_append]
  split
  · rename_i hk
    have h7 := ho.name hk
    unfold isLabel at h7
    simp at h7
    simp only [List.length_cons]; omega
  · simp only [List.length_nil]; omega
theorem textF_small : ∀ (l : List Step), (∀ s ∈ l, StepD s) → (textF l).length ≤ 517 * l.length ∧ l.length ≤ (textF l).length
  | [], _ => by simp [textF]
  | s :: r, h => by
    have ih := textF_small r fun q hq => h q (List.mem_cons_of_mem _ hq)
    have h1 := lineT_small (h s (List.mem_cons_self ..))
    have e : textF (s :: r) = (lineT s ++ [10]) ++ textF r := rfl
    rw [e, List.length_append, List.length_append]; simp only [List.length_cons, List.length_nil]; omega
theorem formatD {l : List Step} (h : ∀ s ∈ l, StepD s) : formatF l = (⟨textF l⟩, 0) := formatF_ok l fun i hi => (h _ (List.getElem_mem hi)).line
theorem parsed_text : ∀ (l : List Step) (n : Nat) (a : List Step), (∀ s ∈ l, (lineF s).2 = 0) → Parsed (textF l) n a (a ++ l, 0, 0)
  | [], n, a, _ => by rw [List.append_nil]; exact .nil n a
  | s :: r, n, a, h => by
    have h0 := h s (List.mem_cons_self ..)
    have ih := parsed_text r (n + 1) (a ++ [s]) fun q hq => h q (List.mem_cons_of_mem _ hq)
    rw [List.append_assoc] at ih
    have e : textF (s :: r) = lineT s ++ 10 :: textF r := by
      show (lineT s ++ [10]) ++ textF r = _
      simp
    refine .line (x := lineT s) (r := textF r) ?_ ⟨h0, rfl⟩ ih
    rw [e]
    exact cutC_app _ (line_no10 (checkS_ok (lineF_ok h0).2.1))
theorem cut_back {c : UInt8} : ∀ {s x r : List UInt8}, cutC c s = (x, r, true) → x ++ c :: r = s
  | [], x, r, h => by simp [cutC] at h
  | b :: s, x, r, h => by
    rw [cutC] at h
    split at h
    · rename_i hb
      simp only [Prod.mk.injEq] at h
      obtain ⟨rfl, rfl, _⟩ := h
      rw [hb]; rfl
    · simp only [Prod.mk.injEq] at h
      obtain ⟨rfl, rfl, h3⟩ := h
      have ih := cut_back (c := c) (s := s) (x := (cutC c s).1) (r := (cutC c s).2.1) (by rw [← h3])
      show b :: ((cutC c s).1 ++ c :: (cutC c s).2.1) = b :: s
      rw [ih]
theorem Parsed.back {s : List UInt8} {n : Nat} {a : List Step} {q : List Step × Int × Int} (h : Parsed s n a q) : (q.2.2 = 0 → ∃ l, q.1 = a ++ l ∧ textF l = s ∧ (∀ st ∈ l, (lineF st).2 = 0) ∧ (s.length ≤ 7900 → ∀ st ∈ l, st.Predicates.length ≤ 4000) ∧ l.length ≤ s.length) ∧ (q.2.2 ≠ 0 → q.1 = []) := by
  induction h with
  | nil n a => exact ⟨fun _ => ⟨[], by simp, rfl, by simp, by simp, by simp⟩, fun h => absurd rfl h⟩
  | bad n a h hb => exact ⟨fun h => absurd (show (8 : Int) = 0 from h) (by decide), fun _ => rfl⟩
  | @line s x r n a st q hc hs h ih =>
    refine ⟨fun h0 => ?_, ih.2⟩
    obtain ⟨l, h1, h2, h3, h4, h5⟩ := ih.1 h0
    have hlen := cutC_len 10 s
    have hlt : r.length < s.length := by have := cutC_less (c := 10) (l := s) (by rw [hc]); rw [hc] at this; exact this
    have hx : x.length ≤ s.length := by rw [hc] at hlen; exact hlen.1
    have hs2 : x ++ 10 :: r = s := cut_back hc
    refine ⟨st :: l, by rw [h1]; simp, ?_, ?_, ?_, by simp; omega⟩
    · show (lineT st ++ [10]) ++ textF l = s
      rw [hs.2, h2, ← hs2]; simp
    · intro q hq
      rcases List.mem_cons.1 hq with rfl | hq
      · exact hs.1
      · exact h3 q hq
    · intro hb q hq
      rcases List.mem_cons.1 hq with rfl | hq
      · have h6 := splitK_count (Lib.count x [59, 32]) x
        change (Lib.split x [59, 32]).length * 2 ≤ _ at h6
        rw [hs.split, parts_eq] at h6
        unfold restS at h6
        simp at h6; omega
      · exact h4 (by omega) q hq
def zoneP : Pred := ⟨1, 6, 0, 0, ⟨[]⟩, 0⟩
def ridesP : Pred := ⟨7, 0, 0, 0, ⟨[]⟩, 5⟩
def stA : Step := ⟨3, 0, 0, 0, [zoneP, ridesP], default, ⟨[]⟩, default⟩
def stB : Step := ⟨11, 0, 1, 2, [], default, ⟨[]⟩, ⟨7, 0, 0, ⟨[97, 110, 110]⟩⟩⟩
def stR : Step := ⟨1, 0, 0, 0, [], default, ⟨[]⟩, default⟩
theorem stA_d : StepD stA := ⟨line_ok ⟨by decide, by decide⟩ ⟨rfl, num_all zR zR zR zR zR zR zR, by decide, fun h => Bool.noConfusion (show false = true from h)⟩, by decide⟩
theorem stB_d : StepD stB := ⟨line_ok ⟨by decide, by decide⟩ ⟨rfl, num_all zR ⟨by decide, by decide⟩ ⟨by decide, by decide⟩ zR zR ⟨by decide, by decide⟩ zR, by decide, fun _ => rfl⟩, by decide⟩
theorem stR_d : StepD stR := ⟨line_ok ⟨by decide, by decide⟩ ⟨rfl, num_all zR zR zR zR zR zR zR, by decide, fun h => Bool.noConfusion (show false = true from h)⟩, by decide⟩
theorem itoa_one (n : Nat) (h : n < 10) : Lib.itoa (n : Int) = [UInt8.ofNat (48 + n)] := by
  unfold Lib.itoa
  rw [if_neg (by omega), Int.toNat_natCast, dec_rec, if_pos h]
def lineA : List UInt8 := [109, 105, 110, 116, 32, 48, 59, 32, 122, 111, 110, 101, 32, 49, 44, 50, 59, 32, 114, 105, 100, 101, 115, 32, 53]
def lineB : List UInt8 := [112, 114, 101, 115, 101, 110, 116, 32, 48, 32, 49, 32, 50, 32, 55, 32, 48, 59, 32, 97, 110, 110]
theorem zone_text : textL zoneP = [122, 111, 110, 101, 32, 49, 44, 50] := by
  have e : bitsL 6 64 = [1, 2] := by decide
  have d1 : decDigits 1 = [49] := by rw [dec_rec]; rfl
  have d2 : decDigits 2 = [50] := by rw [dec_rec]; rfl
  show wordL 1 ++ 32 :: joinC 44 ((bitsL 6 64).map decDigits) = _
  rw [e, List.map_cons, List.map_cons, List.map_nil, d1, d2]; rfl
theorem rides_text : textL ridesP = [114, 105, 100, 101, 115, 32, 53] := by
  have d5 : decDigits 5 = [53] := by rw [dec_rec]; rfl
  show wordL 7 ++ 32 :: decDigits 5 = _
  rw [d5]; rfl
theorem lineA_eq : lineT stA = lineA := by
  have h0 := itoa_one 0 (by decide)
  show Lib.join (numsS (swL.getD 3 []) [0] :: ([textL zoneP, textL ridesP] ++ [])) [59, 32] = _
  rw [nums_join, zone_text, rides_text, List.map_cons, List.map_nil]
  rw [show Lib.itoa (0 : Int) = [48] from h0]; rfl
theorem lineB_eq : lineT stB = lineB := by
  have h0 := itoa_one 0 (by decide)
  have h1 := itoa_one 1 (by decide)
  have h2 := itoa_one 2 (by decide)
  have h7 := itoa_one 7 (by decide)
  show Lib.join (numsS (swL.getD 11 []) [0, 1, 2, 7, 0] :: ([] ++ [[97, 110, 110]])) [59, 32] = _
  rw [nums_join]
  simp only [List.map_cons, List.map_nil]
  rw [show Lib.itoa (0 : Int) = [48] from h0, show Lib.itoa (1 : Int) = [49] from h1, show Lib.itoa (2 : Int) = [50] from h2, show Lib.itoa (7 : Int) = [55] from h7]; rfl
theorem lineR_eq : lineT stR = [114, 111, 116, 97, 116, 101] := by
  show Lib.join (numsS (swL.getD 1 []) [] :: ([] ++ [])) [59, 32] = _
  rfl
def twoT : List UInt8 := lineA ++ [10] ++ (lineB ++ [10])
theorem two_text : textF [stA, stB] = twoT := by
  show ((lineT stA ++ [10]) ++ ((lineT stB ++ [10]) ++ [])) = _
  rw [lineA_eq, lineB_eq]; rfl
theorem two_parsed {q : List Step × Int × Int} (h : Parsed twoT 1 [] q) : q = ([stA, stB], 0, 0) := by
  have := parsed_text [stA, stB] 1 [] (by intro s hs; simp at hs; rcases hs with rfl | rfl; exact stA_d.line; exact stB_d.line)
  rw [two_text] at this
  exact h.uniq this
theorem no_tick : ∀ st, ¬ Said st [116, 105, 99, 107, 32, 48, 49] := by
  intro st h
  have hs := h.split
  rw [split_none (by decide), parts_eq] at hs
  injection hs with h1 _
  have h2 := nums_split st.Kind.toNat (valsS st)
  rw [← h1] at h2
  have e : splitC 32 [116, 105, 99, 107, 32, 48, 49] = [[116, 105, 99, 107], [48, 49]] := by decide
  rw [e] at h2
  injection h2 with _ h3
  cases hv : valsS st with
  | nil => rw [hv] at h3; cases h3
  | cons v r =>
    rw [hv, List.map_cons] at h3
    injection h3 with h4 _
    obtain ⟨b0, b1⟩ := far_in (h.ok.num v (by rw [hv]; exact List.mem_cons_self ..))
    have h5 := atoi_itoa b0 b1
    rw [← h4] at h5
    have h6 : atoiAll [48, 49] = .ok 1 := by decide
    rw [h6] at h5
    have h7 : (1 : Int) = v := by injection h5
    rw [← h7] at h4
    rw [show Lib.itoa (1 : Int) = [49] from itoa_one 1 (by decide)] at h4
    cases h4
def badT : List UInt8 := [114, 111, 116, 97, 116, 101, 10, 116, 105, 99, 107, 32, 48, 49, 10]
theorem bad_parsed {q : List Step × Int × Int} (h : Parsed badT 1 [] q) : q = ([], 2, 8) := by
  have h2 : Parsed badT 1 [] ([], 2, 8) := by
    refine .line (x := [114, 111, 116, 97, 116, 101]) (r := [116, 105, 99, 107, 32, 48, 49, 10]) (st := stR) (by decide) ⟨stR_d.line, lineR_eq⟩ ?_
    exact .bad 2 _ (by decide) fun x r hc st => by
      rw [show cutC 10 [116, 105, 99, 107, 32, 48, 49, 10] = ([116, 105, 99, 107, 32, 48, 49], [], true) by decide] at hc
      simp only [Prod.mk.injEq] at hc
      rw [← hc.1]
      exact no_tick st
  exact h.uniq h2
end Go.Proofs.YtfkbejimghamkaaGreatDoor
set_option maxRecDepth 1000000
set_option linter.unusedVariables false
set_option linter.unusedSimpArgs false
namespace Go.Proofs.YtfkbejimghamkaaGreatDoor
open Go.Fl Go.Ab Go.Mac Go.Sha Go.Lib
theorem twoT_eq : twoT = [109, 105, 110, 116, 32, 48, 59, 32, 122, 111, 110, 101, 32, 49, 44, 50, 59, 32, 114, 105, 100, 101, 115, 32, 53, 10, 112, 114, 101, 115, 101, 110, 116, 32, 48, 32, 49, 32, 50, 32, 55, 32, 48, 59, 32, 97, 110, 110, 10] := rfl
theorem badT_eq : badT = [114, 111, 116, 97, 116, 101, 10, 116, 105, 99, 107, 32, 48, 49, 10] := rfl
theorem twoParse_c : FunA gl Tryz.prog 11 [.v (Str.mk [109, 105, 110, 116, 32, 48, 59, 32, 122, 111, 110, 101, 32, 49, 44, 50, 59, 32, 114, 105, 100, 101, 115, 32, 53, 10, 112, 114, 101, 115, 101, 110, 116, 32, 48, 32, 49, 32, 50, 32, 55, 32, 48, 59, 32, 97, 110, 110, 10])] (fun r => r = .t3 (.v [stA, stB]) (.v (0 : Int)) (.v (0 : Int))) := by
  rw [← twoT_eq]
  exact (parse_c ⟨twoT⟩ (by decide)).mono fun r ⟨q, h1, h2⟩ => by rw [two_parsed h1] at h2; exact h2
theorem badParse_c : FunA gl Tryz.prog 11 [.v (Str.mk [114, 111, 116, 97, 116, 101, 10, 116, 105, 99, 107, 32, 48, 49, 10])] (fun r => r = .t3 (.v ([] : List Step)) (.v (2 : Int)) (.v (8 : Int))) := by
  rw [← badT_eq]
  exact (parse_c ⟨badT⟩ (by decide)).mono fun r ⟨q, h1, h2⟩ => by rw [bad_parsed h1] at h2; exact h2
theorem twoForm_c : FunA gl Tryz.prog 9 [.v [stA, stB]] (fun r => r = .t2 (.v (Str.mk [109, 105, 110, 116, 32, 48, 59, 32, 122, 111, 110, 101, 32, 49, 44, 50, 59, 32, 114, 105, 100, 101, 115, 32, 53, 10, 112, 114, 101, 115, 101, 110, 116, 32, 48, 32, 49, 32, 50, 32, 55, 32, 48, 59, 32, 97, 110, 110, 10])) (.v (0 : Int))) := by
  rw [← twoT_eq]
  exact (format_c [stA, stB] (by decide) (by decide)).mono fun r h => by
    rw [formatD (l := [stA, stB]) (by intro s hs; simp at hs; rcases hs with rfl | rfl; exact stA_d; exact stB_d), two_text] at h; exact h
theorem awake33_c : FunA gl Tryz.prog 6 [] (fun r => r = .v true) := by
  refine FunA.intro Tryz.func6 rfl (by kernel_rfl) 67 rfl rfl _ rfl fun C hC hG => ?_
  refine .seq ?_
  refine .region rfl ?_
  refine .p (.assign .b ?_)
  refine .nil ?_
  refine .seq ?_
  refine .region rfl ?_
  refine .p (.call1 hG (twoParse_c) (.cons (.s [109, 105, 110, 116, 32, 48, 59, 32, 122, 111, 110, 101, 32, 49, 44, 50, 59, 32, 114, 105, 100, 101, 115, 32, 53, 10, 112, 114, 101, 115, 101, 110, 116, 32, 48, 32, 49, 32, 50, 32, 55, 32, 48, 59, 32, 97, 110, 110, 10] (by decide) (by decide)) .nil) (.p (.move (.t rfl) (.p (.ext3_0 (.t rfl) (.p (.ext3_1 (.t rfl) (.p (.ext3_2 (.t rfl) (.p (.assign (.t rfl) ?_)))))))))))
  refine .p (.assign (.t rfl) (.p (.assign (.t rfl) ?_)))
  refine .nil ?_
  refine .seq ?_
  refine .region rfl ?_
  refine .p (.move (.t rfl) (.p (.call1 hG (twoForm_c) (.cons (.t rfl) .nil) (.p (.move (.t rfl) (.p (.ext2_0 (.t rfl) (.p (.ext2_1 (.t rfl) (.p (.assign (.t rfl) ?_)))))))))))
  refine .p (.assign (.t rfl) ?_)
  refine .nil ?_
  refine .seq ?_
  refine .region rfl ?_
  refine .p (.call1 hG (badParse_c) (.cons (.s [114, 111, 116, 97, 116, 101, 10, 116, 105, 99, 107, 32, 48, 49, 10] (by decide) (by decide)) .nil) (.p (.move (.t rfl) (.p (.ext3_0 (.t rfl) (.p (.ext3_1 (.t rfl) (.p (.ext3_2 (.t rfl) (.p (.assign (.t rfl) ?_)))))))))))
  refine .p (.assign (.t rfl) (.p (.assign (.t rfl) ?_)))
  refine .nil ?_
  refine .seq ?_
  refine .region rfl ?_
  refine .p (.move (.t rfl) (.p (.eqlI (.t rfl) (.i rfl) (.p (.move (.t rfl) ?_)))))
  refine .go 26 rfl (.t rfl) (fun hg27 => .move (.t rfl) rfl) ?_
  refine .go 26 rfl (.t rfl) (fun hg28 => .eqlI (.o rfl (beq_iff_eq.2 hg28)) (.i rfl) rfl) ?_
  refine .p (.pickAnd (.t rfl) (fun hp => (.o rfl (beq_iff_eq.2 hp))) (.p (.move (.t rfl) ?_)))
  refine .go 30 rfl (.t rfl) (fun hg31 => .move (.t rfl) rfl) ?_
  refine .go 30 rfl (.t rfl) (fun hg32 => .eqlI (.o rfl (beq_iff_eq.2 hg32)) (.i rfl) rfl) ?_
  refine .p (.pickAnd (.t rfl) (fun hp => (.o rfl (beq_iff_eq.2 hp))) (.p (.move (.t rfl) ?_)))
  refine .go 34 rfl (.t rfl) (fun hg35 => .move (.t rfl) rfl) ?_
  refine .go 34 rfl (.t rfl) (fun hg36 => .len Tryz.underlying22 (.o rfl (beq_iff_eq.2 hg36)) rfl) ?_
  refine .go 34 rfl (.t rfl) (fun hg37 => .eqlI (.o rfl (beq_iff_eq.2 hg37)) (.i rfl) rfl) ?_
  refine .p (.pickAnd (.t rfl) (fun hp => (.o rfl (beq_iff_eq.2 hp))) (.p (.move (.t rfl) ?_)))
  refine .go 39 rfl (.t rfl) (fun hg40 => .move (.t rfl) rfl) ?_
  refine .go 39 rfl (.t rfl) (fun hg41 => .idx ty30 Tryz.underlying22 (.o rfl (beq_iff_eq.2 hg41)) (.i rfl) (by first | omega | (simp; done) | (simp; omega) | (have := hg41; simp at this; omega)) (by first | omega | (simp; done) | (simp; omega) | (have := hg41; simp at this; omega)) rfl) ?_
  refine .go 39 rfl (.t rfl) (fun hg42 => .fldPF G_api_Step.l4 (fun x => x.Predicates) fd30_4 rfl (fun _ => rfl) (.o rfl (beq_iff_eq.2 hg42)) rfl) ?_
  refine .go 39 rfl (.t rfl) (fun hg43 => .ldP ty24 (.o rfl (beq_iff_eq.2 hg43)) rfl) ?_
  refine .go 39 rfl (.t rfl) (fun hg44 => .len Tryz.underlying24 (.o rfl (beq_iff_eq.2 hg44)) rfl) ?_
  refine .go 39 rfl (.t rfl) (fun hg45 => .eqlI (.o rfl (beq_iff_eq.2 hg45)) (.i rfl) rfl) ?_
  refine .p (.pickAnd (.t rfl) (fun hp => (.o rfl (beq_iff_eq.2 hp))) (.p (.move (.t rfl) ?_)))
  refine .go 47 rfl (.t rfl) (fun hg48 => .move (.t rfl) rfl) ?_
  refine .go 47 rfl (.t rfl) (fun hg49 => .idx ty30 Tryz.underlying22 (.o rfl (beq_iff_eq.2 hg49)) (.i rfl) (by first | omega | (simp; done) | (simp; omega) | (have := hg49; simp at this; omega)) (by first | omega | (simp; done) | (simp; omega) | (have := hg49; simp at this; omega)) rfl) ?_
  refine .go 47 rfl (.t rfl) (fun hg50 => .fldPF G_api_Step.l7 (fun x => x.Context) fd30_7 rfl (fun _ => rfl) (.o rfl (beq_iff_eq.2 hg50)) rfl) ?_
  refine .go 47 rfl (.t rfl) (fun hg51 => .fldPF G_api_Context.l0 (fun x => x.Zone) fd28_0 rfl (fun _ => rfl) (.o rfl (beq_iff_eq.2 hg51)) rfl) ?_
  refine .go 47 rfl (.t rfl) (fun hg52 => .ldP ty3 (.o rfl (beq_iff_eq.2 hg52)) rfl) ?_
  refine .go 47 rfl (.t rfl) (fun hg53 => .eqlI (.o rfl (beq_iff_eq.2 hg53)) (.i rfl) rfl) ?_
  refine .p (.pickAnd (.t rfl) (fun hp => (.o rfl (beq_iff_eq.2 hp))) (.p (.move (.t rfl) ?_)))
  refine .go 55 rfl (.t rfl) (fun hg56 => .move (.t rfl) rfl) ?_
  refine .go 55 rfl (.t rfl) (fun hg57 => .eqlS (.o rfl (beq_iff_eq.2 hg57)) (.s [109, 105, 110, 116, 32, 48, 59, 32, 122, 111, 110, 101, 32, 49, 44, 50, 59, 32, 114, 105, 100, 101, 115, 32, 53, 10, 112, 114, 101, 115, 101, 110, 116, 32, 48, 32, 49, 32, 50, 32, 55, 32, 48, 59, 32, 97, 110, 110, 10] (by decide) (by decide)) rfl) ?_
  refine .p (.pickAnd (.t rfl) (fun hp => (.o rfl (beq_iff_eq.2 hp))) (.p (.move (.t rfl) ?_)))
  refine .go 59 rfl (.t rfl) (fun hg60 => .move (.t rfl) rfl) ?_
  refine .go 59 rfl (.t rfl) (fun hg61 => .eqlI (.o rfl (beq_iff_eq.2 hg61)) (.i rfl) rfl) ?_
  refine .p (.pickAnd (.t rfl) (fun hp => (.o rfl (beq_iff_eq.2 hp))) (.p (.move (.t rfl) ?_)))
  refine .go 63 rfl (.t rfl) (fun hg64 => .move (.t rfl) rfl) ?_
  refine .go 63 rfl (.t rfl) (fun hg65 => .eqlI (.o rfl (beq_iff_eq.2 hg65)) (.i rfl) rfl) ?_
  refine .p (.pickAnd (.t rfl) (fun hp => (.o rfl (beq_iff_eq.2 hp))) (.p (.assign (.t rfl) ?_)))
  refine .nil ?_
  refine .ret ?_
  refine ⟨_, .r1 rfl (.tmp rfl), ?_⟩
  rfl
theorem made33_c (deck : List Int) (n : Int) (h0 : 0 ≤ n) (h1 : n ≤ 1000) : FunA gl Tryz.prog 7 [.v deck, .v n] (fun r => ∃ (l : List Step) (b : AV), r = .t2 (.v l) b ∧ (l.length : Int) ≤ 5 + n ∧ 5 ≤ l.length ∧ ∀ s ∈ l, StepD s) := by
  refine FunA.intro Tryz.func7 rfl (by kernel_rfl) 17 rfl rfl _ rfl fun C hC hG => ?_
  refine .seq ?_
  refine .region rfl ?_
  refine .p (.assign (.nilS (α := G_api_Step)) (.p (.assign .raw ?_)))
  refine .nil ?_
  refine .seq ?_
  refine .region rfl ?_
  refine .p (.move (.t rfl) (.h (.call0 hG (deckNew_c _) (.cons (.t rfl) .nil) fun r9 Hs9 hr9 => ?_)))
  obtain ⟨b9, rfl, rfl⟩ := hr9
  show wpB _ _ _ _ _ _ _ ((true, _) :: _)
  refine .p (.assign (.t rfl) ?_)
  refine .nil ?_
  refine .seq ?_
  refine .region rfl ?_
  refine .p (.move (.t rfl) (.h (.callM hG (Config_deck_c _ _ _ (by first | assumption | exact deckNew_ok _)) .z (.cons (.t rfl) (.cons .b .nil)) (by rintro _ _ ⟨_, _, _, _, _, rfl⟩; exact ⟨_, rfl⟩) fun r11 B11 hr11 => ?_)))
  obtain ⟨c11, hc11, d11, hd11, rfl, hB⟩ := hr11
  cases hB
  refine .h (.alloc ty56 fun b7 => .n (.stW ty56 (.t rfl) (.t rfl) .z ?_))
  refine .nil ?_
  refine .seq ?_
  refine .region rfl ?_
  refine .p (.move (.t rfl) (.p (.ldW ty56 (.t rfl) .z (.p (.move (.t rfl) (.h (.callM hG (Steps_deck_c _ _ _ _ (by assumption) (by assumption) h0 h1) (.s .z) (.cons (.t rfl) (.cons (.t rfl) (.cons (.t rfl) .nil))) (by rintro _ _ ⟨_, _, _, _, _, _, _, rfl⟩; exact ⟨_, rfl⟩) fun r15 B15 hr15 => ?_)))))))
  obtain ⟨l15, hl15, hm15, hp15, d15, hd15, rfl, hB⟩ := hr15
  cases hB
  refine .p (.move (.t rfl) (.p (.assign (.t rfl) (.p (.assign (.t rfl) ?_)))))
  refine .nil ?_
  refine .ret ?_
  refine ⟨_, .r2 rfl (.tmp rfl) (.tmp rfl), ?_⟩
  exact ⟨_, _, rfl, hl15, hm15, hp15⟩
end Go.Proofs.YtfkbejimghamkaaGreatDoor
set_option maxRecDepth 1000000
set_option linter.unusedVariables false
set_option linter.unusedSimpArgs false
namespace Go.Proofs.YtfkbejimghamkaaGreatDoor
open Go.Fl Go.Ab Go.Mac Go.Sha Go.Lib
def fewP (l : List Step) : Prop := (∀ s ∈ l, s.Predicates.length ≤ 4000) ∧ l.length ≤ 10000
theorem few_d {l : List Step} (h : ∀ s ∈ l, StepD s) (hl : (l.length : Int) ≤ 1000) : fewP l := ⟨fun s hs => by have := (h s hs).preds; omega, by omega⟩
theorem few3 {a b c : List Step} (ha : fewP a) (hb : fewP b) (hc : fewP c) (k : Nat) (h : k < [a, b, c].length) : fewP ([a, b, c][k]'h) := by
  have := List.getElem_mem h
  simp only [List.mem_cons, List.not_mem_nil, or_false] at this
  rcases this with e | e | e <;> rw [e] <;> assumption
theorem Parsed.few {s : List UInt8} {n : Nat} {q : List Step × Int × Int} (h : Parsed s n [] q) (hs : s.length ≤ 7900) : fewP q.1 := by
  obtain ⟨h1, h2⟩ := h.back
  by_cases h0 : q.2.2 = 0
  · obtain ⟨l, e1, _, _, e4, e5⟩ := h1 h0
    rw [e1, List.nil_append]
    exact ⟨e4 hs, by omega⟩
  · rw [h2 h0]; exact ⟨fun s hs => (by cases hs), by simp⟩
theorem back_no {t : Str} {q : List Step × Int × Int} (h : Parsed t.l 1 [] q) : (decide (q.2.2 = 0) && (decide ((formatF q.1).2 ≠ 0) || decide ((formatF q.1).1 ≠ t)) || decide (q.2.2 ≠ 0) && decide (0 < (q.1.length : Int))) = false := by
  obtain ⟨h1, h2⟩ := h.back
  by_cases h0 : q.2.2 = 0
  · obtain ⟨l, e1, e2, e3, _, _⟩ := h1 h0
    have e4 : formatF q.1 = (t, 0) := by
      rw [e1, List.nil_append, formatF_ok l fun i hi => e3 _ (List.getElem_mem hi), e2]
    rw [e4, decide_eq_false (show ¬ q.2.2 ≠ 0 from fun h => h h0)]; simp
  · rw [h2 h0, decide_eq_false (show ¬ q.2.2 = 0 from h0)]; simp
theorem parse9_c (s : Str) (hs : s.l.length ≤ 7900) : FunA gl Tryz.prog 11 [.v s] (fun r => ∃ q, (Parsed s.l 1 [] q ∧ fewP q.1) ∧ r = .t3 (.v q.1) (.v q.2.1) (.v q.2.2)) :=
  (parse_c s hs).mono fun r ⟨q, h1, h2⟩ => ⟨q, ⟨h1, h1.few hs⟩, h2⟩
theorem two_le {a b : Str} (ha : a.l.length ≤ 7900) (hb : b.l.length ≤ 7900) (k : Nat) (h : k < [a, b].length) : ([a, b][k]'h).l.length ≤ 7900 := by
  have := List.getElem_mem h
  simp only [List.mem_cons, List.not_mem_nil, or_false] at this
  rcases this with e | e <;> rw [e] <;> assumption
end Go.Proofs.YtfkbejimghamkaaGreatDoor
set_option maxRecDepth 1000000
set_option linter.unusedVariables false
set_option linter.unusedSimpArgs false
namespace Go.Proofs.YtfkbejimghamkaaGreatDoor
open Go.Fl Go.Ab Go.Mac Go.Sha Go.Lib
theorem ScriptBack_c (raw : Str) (deck : List Int) (at_ : Int) (c : UInt8) : FunA gl Tryz.prog 5 [.v raw, .v deck, .v at_, .v c] (fun r => r = .v true) := by
  refine FunA.intro Tryz.func5 rfl (by kernel_rfl) 117 rfl rfl _ rfl fun C hC hG => ?_
  refine .seq ?_
  refine .region rfl ?_
  refine .p (.assign .b ?_)
  refine .nil ?_
  refine .seq ?_
  refine .region rfl ?_
  refine .p (.move (.t rfl) (.p (.move (.t rfl) (.p (.lenS Tryz.underlying9 (.t rfl) (.p (.minI (.t rfl) (.i rfl) (.p (.slStrHi Tryz.underlying9 (.t rfl) (.t rfl) (by first | omega | (simp; done) | (simp; omega) | (simp at *; omega)) (by first | omega | (simp; done) | (simp; omega) | (simp at *; omega)) (.p (.assign (.t rfl) ?_)))))))))))
  refine .nil ?_
  refine .seq ?_
  refine .region rfl ?_
  refine .p (.move (.t rfl) (.p (.call hG (made33_c _ _ (by decide) (by decide)) (.cons (.t rfl) (.cons (.i rfl) .nil)) fun r31 hr31 => ?_)))
  obtain ⟨l, b, rfl, hl1, hl2, hl3⟩ := hr31
  have hl := few_d hl3 (by omega)
  obtain ⟨ht1, ht2⟩ := textF_small l hl3
  refine .p (.move (.t rfl) (.p (.ext2_0 (.t rfl) (.p (.ext2_1 (.t rfl) (.p (.assign (.t rfl) (.p (.assign (.t rfl) ?_)))))))))
  refine .nil ?_
  refine .seq ?_
  refine .region rfl ?_
  refine .p (.move (.t rfl) (.p (.call1 hG (format_c _ hl.1 hl.2) (.cons (.t rfl) .nil) ?_)))
  rw [formatD hl3]
  refine .p (.move (.t rfl) (.p (.ext2_0 (.t rfl) (.p (.ext2_1 (.t rfl) (.p (.assign (.t rfl) (.p (.assign (.t rfl) ?_)))))))))
  refine .nil ?_
  refine .seq ?_
  refine .region rfl ?_
  refine .p (.move (.t rfl) (.p (.call hG (parse_c _ (by first | omega | (simp; done) | (simp; omega) | (simp at *; omega))) (.cons (.t rfl) .nil) fun r41 hr41 => ?_)))
  obtain ⟨q, hq, rfl⟩ := hr41
  have e41 := hq.uniq (parsed_text l 1 [] (fun s hs => (hl3 s hs).line))
  subst e41
  refine .p (.move (.t rfl) (.p (.ext3_0 (.t rfl) (.p (.ext3_1 (.t rfl) (.p (.ext3_2 (.t rfl) (.p (.assign (.t rfl) (.p (.assign (.t rfl) ?_)))))))))))
  refine .p (.assign (.t rfl) ?_)
  refine .nil ?_
  refine .seq ?_
  refine .seq ?_
  refine .region rfl ?_
  refine .p (.move (.t rfl) (.p (.neqI (.t rfl) (.i rfl) (.p (.move (.t rfl) ?_)))))
  refine .go 47 rfl (.t rfl) (fun hg48 => .move (.t rfl) rfl) ?_
  refine .go 47 rfl (.t rfl) (fun hg49 => .neqI (.o rfl (beq_iff_eq.2 hg49)) (.i rfl) rfl) ?_
  refine .p (.pickOr (.t rfl) (fun hp => (.o rfl (beq_iff_eq.2 hp))) (.p (.move (.t rfl) ?_)))
  refine .go 51 rfl (.t rfl) (fun hg52 => .move (.t rfl) rfl) ?_
  refine .go 51 rfl (.t rfl) (fun hg53 => .neqI (.o rfl (beq_iff_eq.2 hg53)) (.i rfl) rfl) ?_
  refine .p (.pickOr (.t rfl) (fun hp => (.o rfl (beq_iff_eq.2 hp))) (.p (.move (.t rfl) ?_)))
  refine .go 55 rfl (.t rfl) (fun hg56 => .move (.t rfl) rfl) ?_
  refine .go 55 rfl (.t rfl) (fun hg57 => .move (.t rfl) rfl) ?_
  refine .go 55 rfl (.t rfl) (fun hg58 => .call1 hG (sameSteps_c _ _) (.cons (.o rfl (beq_iff_eq.2 hg58)) (.cons (.o rfl (beq_iff_eq.2 hg58)) .nil)) rfl) ?_
  refine .go 55 rfl (.t rfl) (fun hg59 => .not (.o rfl (beq_iff_eq.2 hg59)) rfl) ?_
  refine .p (.pickOr (.t rfl) (fun hp => (.o rfl (beq_iff_eq.2 hp))) ?_)
  refine .nil ?_
  refine .cond (.t rfl) (fun hc60 => (by exfalso; simp at hc60)) (fun hc60 => ?_)
  refine .skip ?_
  refine .seq ?_
  refine .region rfl ?_
  refine .p (.move (.t rfl) (.p (.move (.t rfl) (.p (.lenS Tryz.underlying9 (.t rfl) (.p (.call1 hG (Within_c _ _ (by first | omega | (simp; done) | (simp; omega) | (simp at *; omega)) (by first | omega | (simp; done) | (simp; omega) | (simp at *; omega))) (.cons (.t rfl) (.cons (.t rfl) .nil)) ?_)))))))
  have hw0 := Int.emod_nonneg at_ (show ((textF l).length : Int) ≠ 0 by omega)
  have hw1 := Int.emod_lt_of_pos at_ (show 0 < ((textF l).length : Int) by omega)
  refine .p (.assign (.t rfl) ?_)
  refine .nil ?_
  refine .seq ?_
  refine .seq ?_
  refine .draw (by kernel_rfl) 16 [[], [], [], [(66, 1), (67, 2)], [], [(69, 4)], [(70, 5)], [(68, 3), (71, 6)], [], [], [(74, 9)], [(73, 8), (75, 10)], [(72, 7), (76, 11)], [(65, 0), (77, 12)], [(78, 13)], []] rfl (by kernel_rfl) rfl ?_
  refine ⟨_, OpP.move (.t rfl) rfl, ?_⟩
  refine ⟨_, OpP.move (.t rfl) rfl, ?_⟩
  refine ⟨_, OpP.move (.t rfl) rfl, ?_⟩
  refine ⟨_, OpP.slStrHi Tryz.underlying9 (.t rfl) (.t rfl) (by first | omega | (simp; done) | (simp; omega) | (simp at *; omega)) (by first | omega | (simp; done) | (simp; omega) | (simp at *; omega)) rfl, ?_⟩
  refine ⟨_, OpP.move (.t rfl) rfl, ?_⟩
  refine ⟨_, OpP.buildSliceF (α := UInt8) ty5 Tryz.underlying45 (.cons (.t rfl) .nil) rfl (by decide) rfl, ?_⟩
  refine ⟨_, OpP.bytesStr Tryz.underlying45 Tryz.underlying5 Tryz.underlying9 (.c rfl) rfl, ?_⟩
  refine ⟨_, OpP.addS (.t rfl) (.t rfl) (by first | omega | (simp; done) | (simp; omega) | (simp at *; omega)) rfl, ?_⟩
  refine ⟨_, OpP.move (.t rfl) rfl, ?_⟩
  refine ⟨_, OpP.move (.t rfl) rfl, ?_⟩
  refine ⟨_, OpP.add (.t rfl) (.i rfl) (by first | omega | (simp; done) | (simp; omega) | (simp at *; omega)) (by first | omega | (simp; done) | (simp; omega) | (simp at *; omega)) rfl, ?_⟩
  refine ⟨_, OpP.slStrLo Tryz.underlying9 (.t rfl) (.t rfl) (by first | omega | (simp; done) | (simp; omega) | (simp at *; omega)) (by first | omega | (simp; done) | (simp; omega) | (simp at *; omega)) rfl, ?_⟩
  refine ⟨_, OpP.addS (.t rfl) (.t rfl) (by first | omega | (simp; done) | (simp; omega) | (simp at *; omega)) rfl, ?_⟩
  refine ⟨_, OpP.buildSliceF (α := Str) ty9 Tryz.underlying36 (.cons (.t rfl) (.cons (.t rfl) .nil)) rfl (by decide) rfl, ?_⟩
  refine ⟨_, OpP.len Tryz.underlying36 (.c rfl) rfl, ?_⟩
  refine ⟨_, OpP.move (.i rfl) rfl, ?_⟩
  show wpB _ _ _ _ _ _ ((80, _) :: (79, _) :: (78, _) :: (77, _) :: (76, _) :: (75, _) :: (74, _) :: (73, _) :: (72, _) :: (71, _) :: (70, _) :: (69, _) :: (68, _) :: (67, _) :: (66, _) :: (65, _) :: _) _
  refine .nil ?_
  refine .block ?_
  refine .loopR (α := Nat) [(78, _), (79, _)] (fun k R => (80, .v (k : Int)) :: R) (Function.const _ _) (fun k => k ≤ 2) (fun k => 2 - k) (0) (.cons rfl (.cons rfl (.nil _))) ?_ (.cons rfl (.cons rfl (.cons rfl (.nil _)))) (rfl) fun k hF => ?_
  · simp
  refine .seq ?_
  refine .region rfl ?_
  refine .p (.lss (.t rfl) (.t rfl) ?_)
  refine .nil ?_
  refine .seq ?_
  refine .condP (.t rfl) (fun hc81 => ?_) (fun hc81 => ?_)
  · refine .skip ?_
    refine .seq ?_
    refine .block ?_
    refine .seq ?_
    refine .region rfl ?_
    refine .p (.idx ty9 Tryz.underlying36 (.c rfl) (.t rfl) (by first | omega | (simp; done) | (simp; omega) | (simp at *; omega)) (by first | omega | (simp; done) | (simp; omega) | (simp at *; omega)) (.p (.ldP ty9 (.t rfl) (.p (.assign (.t rfl) ?_)))))
    refine .nil ?_
    refine .seq ?_
    refine .region rfl ?_
    refine .p (.move (.t rfl) (.p (.call hG (parse9_c _ (two_le (by first | (simp only [List.length_take]; omega) | (simp only [List.length_append, List.length_take, List.length_drop, List.length_cons, List.length_nil]; omega)) (by first | (simp only [List.length_take]; omega) | (simp only [List.length_append, List.length_take, List.length_drop, List.length_cons, List.length_nil]; omega)) _ _)) (.cons (.t rfl) .nil) fun r86 hr86 => ?_)))
    obtain ⟨q, ⟨hq, hfew⟩, rfl⟩ := hr86
    refine .p (.move (.t rfl) (.p (.ext3_0 (.t rfl) (.p (.ext3_1 (.t rfl) (.p (.ext3_2 (.t rfl) (.p (.assign (.t rfl) (.p (.assign (.t rfl) ?_)))))))))))
    refine .p (.assign (.t rfl) ?_)
    refine .nil ?_
    refine .seq ?_
    refine .region rfl ?_
    refine .p (.move (.t rfl) (.p (.call1 hG (format_c _ hfew.1 hfew.2) (.cons (.t rfl) .nil) (.p (.move (.t rfl) (.p (.ext2_0 (.t rfl) (.p (.ext2_1 (.t rfl) (.p (.assign (.t rfl) ?_)))))))))))
    refine .p (.assign (.t rfl) ?_)
    refine .nil ?_
    refine .seq ?_
    refine .region rfl ?_
    refine .p (.move (.t rfl) (.p (.eqlI (.t rfl) (.i rfl) (.p (.move (.t rfl) ?_)))))
    refine .go 97 rfl (.t rfl) (fun hg98 => .move (.t rfl) rfl) ?_
    refine .go 97 rfl (.t rfl) (fun hg99 => .neqI (.o rfl (beq_iff_eq.2 hg99)) (.i rfl) rfl) ?_
    refine .goU 97 rfl (.t rfl) (fun hg100 => .move (.o rfl (beq_iff_eq.2 hg100)) rfl) ?_
    refine .gn 100 rfl rfl (fun hc101 hg101 => .move (.t rfl) rfl) ?_
    refine .gn 100 rfl rfl (fun hc102 hg102 => .move (.t rfl) rfl) ?_
    refine .gn 100 rfl rfl (fun hc103 hg103 => .neqS (.ou rfl (Bool.and_eq_true_iff.2 ⟨hc103, beq_iff_eq.2 hg103⟩)) (.ou rfl (Bool.and_eq_true_iff.2 ⟨hc103, beq_iff_eq.2 hg103⟩)) rfl) ?_
    refine .go 97 rfl (.t rfl) (fun hg104 => .pickOr (.ou rfl (beq_iff_eq.2 hg104)) (fun hp => (.ou rfl (Bool.and_eq_true_iff.2 ⟨(beq_iff_eq.2 hg104), beq_iff_eq.2 hp⟩))) rfl) ?_
    refine .p (.pickAnd (.t rfl) (fun hp => (.o rfl (beq_iff_eq.2 hp))) (.p (.move (.t rfl) ?_)))
    refine .go 106 rfl (.t rfl) (fun hg107 => .move (.t rfl) rfl) ?_
    refine .go 106 rfl (.t rfl) (fun hg108 => .neqI (.o rfl (beq_iff_eq.2 hg108)) (.i rfl) rfl) ?_
    refine .goU 106 rfl (.t rfl) (fun hg109 => .move (.o rfl (beq_iff_eq.2 hg109)) rfl) ?_
    refine .gn 109 rfl rfl (fun hc110 hg110 => .move (.t rfl) rfl) ?_
    refine .gn 109 rfl rfl (fun hc111 hg111 => .len Tryz.underlying22 (.ou rfl (Bool.and_eq_true_iff.2 ⟨hc111, beq_iff_eq.2 hg111⟩)) rfl) ?_
    refine .gn 109 rfl rfl (fun hc112 hg112 => .gtr (.ou rfl (Bool.and_eq_true_iff.2 ⟨hc112, beq_iff_eq.2 hg112⟩)) (.i rfl) rfl) ?_
    refine .go 106 rfl (.t rfl) (fun hg113 => .pickAnd (.ou rfl (beq_iff_eq.2 hg113)) (fun hp => (.ou rfl (Bool.and_eq_true_iff.2 ⟨(beq_iff_eq.2 hg113), beq_iff_eq.2 hp⟩))) rfl) ?_
    refine .p (.pickOr (.t rfl) (fun hp => (.o rfl (beq_iff_eq.2 hp))) ?_)
    refine .nil ?_
    refine .cond (.t rfl) (fun hc114 => (by exfalso; rw [back_no hq] at hc114; exact Bool.noConfusion hc114)) (fun hc114 => ?_)
    refine .skip ?_
    refine .region rfl ?_
    refine .p (.add (.t rfl) (.i rfl) (by first | omega | (simp; done) | (simp; omega) | (simp at *; omega)) (by first | omega | (simp; done) | (simp; omega) | (simp at *; omega)) (.p (.move (.t rfl) ?_)))
    refine .nil ?_
    refine ⟨k + 1, .cons rfl (.cons rfl (.cons rfl (.nil _))), rfl, ?_, by have h9 := hc81; simp at h9; omega⟩
    have h9 := hc81; simp at h9; omega
  · refine .exit ?_
    refine .seq ?_
    refine .region rfl ?_
    refine .p (.call1 hG (awake33_c) .nil (.p (.assign (.t rfl) ?_)))
    refine .nil ?_
    refine .ret ?_
    refine ⟨_, .r1 rfl (.tmp rfl), ?_⟩
    rfl
end Go.Proofs.YtfkbejimghamkaaGreatDoor
set_option linter.unusedVariables false
namespace Go.Fl
open Go.ChangeShapes Go.WideShapes Go.ChangeAt Go.RowKit
def imOf (W : World) : Im := fun b => W.heap[b]?
theorem mem_imOf (W : World) : Mem (imOf W) [] W := ⟨fun b o h => h, by simp, by simp, by simp⟩
theorem Fun.calls {P : Program} {f : FuncId} {args : Array Value} {W : World} {r : Value} (h : Fun P f args (imOf W) (fun v _ => v = r)) :
    Calls P f args W (fun e W' => e = .returned r ∧ Below W.heap.size W W') :=
  (h.run W (mem_imOf W)).mono fun e w' ⟨v, J, he, hc, _, _, _, hv⟩ => ⟨by rw [he, hv], ⟨hc.os, hc.tape, hc.output, hc.size, fun k hk => hc.block k hk (by simp)⟩⟩
theorem cell_plain {W : World} {x : Addr} {v : Value} (h : W.cell? x = some v) : x.spot = none ∧ ∃ cs e fr, W.heap[x.block]? = some (.cells cs e fr) ∧ cs[x.off]? = some v := by
  unfold World.cell? at h
  split at h
  · rename_i c e fr heq
    split at h
    · cases h
    · rename_i hs
      exact ⟨by simpa using hs, c, e, fr, heq, h⟩
  · cases h
end Go.Fl
set_option linter.unusedVariables false
namespace Go.Ab
open Go.Fl Go.RowKit Go.ChangeShapes Go.WideShapes Go.ChangeAt
open Rep (rep)
def Opens (P : Program) (T : TypeId) (α : Type) [Rep α] : Prop := P.cellsOf T = Rep.size α ∧
  ∀ (H : Type) (enc : TypeId × Value → H) (W : World) (base : Nat) (spare : Nat → Bool) (held : Bool) (fuel : Nat) (cs : List Value) (x : DataW H × List MemPlace), DataW.trod enc P W base spare held fuel T cs = some x → ∃ a : α, rep (imOf W) a cs
variable {P : Program} {T E : TypeId}
theorem Opens.i64 (hT : P.underlying T = some (.int .i64)) (hc : P.cellsOf T = 1) : Opens P T Int := ⟨hc, fun H enc W base spare held fuel cs x h => by
  obtain ⟨n, rfl, _, hw⟩ := DataW.trod_int hT h
  simp [Lit.wf, IntKind.min, IntKind.max, IntKind.signed, IntKind.bits] at hw
  exact ⟨n, rfl, by omega, by omega⟩⟩
theorem Opens.u8 (hT : P.underlying T = some (.int .u8)) (hc : P.cellsOf T = 1) : Opens P T UInt8 := ⟨hc, fun H enc W base spare held fuel cs x h => by
  obtain ⟨n, rfl, _, hw⟩ := DataW.trod_int hT h
  simp [Lit.wf, IntKind.min, IntKind.max, IntKind.signed, IntKind.bits] at hw
  refine ⟨UInt8.ofNat n.toNat, ?_⟩
  show [Value.int .u8 n] = [Fl.u8 _]
  unfold Fl.u8
  congr 2; simp; omega⟩
theorem Opens.str (hT : P.underlying T = some .string) (hc : P.cellsOf T = 1) : Opens P T Str := ⟨hc, fun H enc W base spare held fuel cs x h => by
  obtain ⟨s, rfl, _, hs⟩ := DataW.trod_string hT h
  refine ⟨⟨s.data.toList⟩, ⟨s, rfl, rfl⟩, ?_⟩
  show s.data.toList.length ≤ _
  have : s.data.toList.length = s.size := rfl
  unfold maxLen at hs
  omega⟩
theorem add_add (a : Addr) (i j : Nat) : (a.add i).add j = a.add (i + j) := by
  unfold Addr.add
  rcases a with ⟨b, o, _ | s⟩ <;> by_cases hi : i = 0 <;> by_cases hj : j = 0 <;> simp [hi, hj, Nat.add_assoc]
theorem Opens.slice {α : Type} {r : Rep α} (hT : P.underlying T = some (.slice E)) (hc : P.cellsOf T = 1) (hE : Opens P E α) (hp : 0 < Rep.size α) : Opens P T (List α) := ⟨hc, fun H enc W base spare held fuel cs x h => by
  rcases DataW.trod_slice hT h with ⟨rfl, _⟩ | ⟨a, len, cap, elems, rest, n, _, rfl, _, hb, hl, hm, hel, hget, _⟩
  · exact ⟨[], _, rfl, [], Sl.nil _ _, rfl⟩
  · have key : ∀ k, k ≤ len → ∃ (l : List α) (xs : List Value), l.length = k ∧ repL (imOf W) l xs ∧ ∀ i v, xs[i]? = some v → W.cell? (a.add i) = some v := by
      intro k
      induction k with
      | zero => exact fun _ => ⟨[], [], rfl, rfl, fun i v hv => by simp at hv⟩
      | succ k ih =>
        intro hk
        obtain ⟨l, xs, h1, h2, h3⟩ := ih (by omega)
        have hg := hget k (by omega)
        rw [List.getElem?_eq_getElem (by omega)] at hg
        obtain ⟨c, hc1, hc2⟩ := Option.bind_eq_some_iff.1 hg
        obtain ⟨_, hcl, hcell⟩ := World.cells?_some hc1
        obtain ⟨y, hy⟩ := hE.2 H enc W base spare held n c _ hc2
        refine ⟨l ++ [y], xs ++ c, by simp [h1], h2.append (.one hy), fun i v hv => ?_⟩
        have hxl : xs.length = k * Rep.size α := by rw [h2.len, h1]
        by_cases hi : i < xs.length
        · rw [List.getElem?_append_left hi] at hv; exact h3 i v hv
        · rw [List.getElem?_append_right (by omega)] at hv
          have hj := (List.getElem?_eq_some_iff.1 hv).1
          have := hcell (i - xs.length) (by omega)
          rw [hv, hE.1, add_add, ← hxl, show xs.length + (i - xs.length) = i by omega] at this
          exact this
    obtain ⟨l, xs, h1, h2, h3⟩ := key len (Nat.le_refl _)
    have hxl := h2.len
    refine ⟨l, _, rfl, xs, ⟨_, _, by rw [h1], h2.len, by omega, hm, (fun h => by cases h), fun hne => ?_⟩, h2⟩
    rcases a with ⟨ab, ao, ags⟩
    obtain ⟨v0, hv0⟩ : ∃ v, xs[0]? = some v := ⟨_, List.getElem?_eq_getElem (List.length_pos_iff.2 hne)⟩
    have hc0 := h3 0 v0 hv0
    obtain ⟨hsp, cs, e, fr, hob, _⟩ := cell_plain hc0
    have hsp2 : ags = none := by
      cases ags with
      | none => rfl
      | some q =>
        unfold Addr.add at hsp
        simp at hsp
    subst hsp2
    rw [Addr.add_plain] at hob
    have hob : W.heap[ab]? = some (Obj.cells cs e fr) := hob
    refine ⟨ab, ao, rfl, cs, e, fr, hob, fun i v hv => ?_⟩
    have hcv := h3 i v hv
    rw [Addr.add_plain] at hcv
    obtain ⟨_, cs2, e2, fr2, hob2, hv2⟩ := cell_plain hcv
    have : Obj.cells cs e fr = Obj.cells cs2 e2 fr2 := Option.some.inj (hob.symm.trans hob2)
    cases this
    exact hv2⟩
theorem Opens.val {α : Type} {r : Rep α} (h : Opens P T α) {H : Type} {enc : TypeId × Value → H} {W : World} {base : Nat} {spare : Nat → Bool} {held : Bool} {v : Value} {d : DataW H} {p : List MemPlace} (ht : DataW.Trod enc P W base spare held T v d p)
    (hv : ∀ cs : List Value, v.cells.toList = cs → v = asV (Rep.agg α) cs) : ∃ a : α, RepV (imOf W) (.v a) v := by
  obtain ⟨fuel, hf⟩ := ht
  obtain ⟨a, ha⟩ := h.2 H enc W base spare held fuel _ _ hf
  exact ⟨a, _, ha, hv _ rfl⟩
theorem FunA.calls {G : Gl} {f : FuncId} {ags : List AV} {vs : List Value} {W : World} (h : FunA G P f ags (fun r => r = .v true)) (hG : G.p (imOf W)) (hv : RepVs (imOf W) ags vs) :
    Calls P f vs.toArray W (fun e W' => e = .returned (.bool true) ∧ Below W.heap.size W W') :=
  Fun.calls ((h (imOf W) vs hG hv).mono fun v J _ ⟨r, h1, h2⟩ => by
    subst h2
    obtain ⟨cs, rfl, rfl⟩ := h1
    rfl)
theorem form_one {v : Value} (h : v.cells = #[v]) : ∀ cs : List Value, v.cells.toList = cs → v = asV false cs := fun cs hc => by
  rw [h] at hc; subst hc; rfl
end Go.Ab
set_option linter.unusedVariables false
namespace Go.Fl
open Go.RowKit
theorem ints_laid {P : Program} {W : World} {n : String} {d : DataW Unit} {l : List Int} {g : Nat} {T E : TypeId} (hg : P.globalNamed n = some g) (ht : (P.globals[g]?).map (·.type) = some T) (hT : P.underlying T = some (.array l.length E))
    (hE : P.underlying E = some (.int .i64)) (hone : P.cellsOf E = 1) (hl : 0 < l.length) (hd : d = .agg (l.map fun k => .lit (.int .i64 k))) (h : laidMet P [(n, d)] W) : Cells (imOf W) g 0 (l.map i64) := by
  obtain ⟨ps, ⟨g2, t, cs, fuel, p, q, hg2, ht2, hvar, htr, _, _⟩, _⟩ := h
  obtain rfl := Option.some.inj (hg.symm.trans hg2)
  obtain rfl := Option.some.inj (ht.symm.trans ht2)
  obtain ⟨xs, m, _, hx, hlen, hxl, hel⟩ := DataW.trod_array hT htr
  have hxd : xs.map (·.1) = l.map fun k => DataW.lit (.int .i64 k) := by
    have := (Prod.mk.inj hx).1
    rw [hd] at this
    injection this with h2
    exact h2.symm
  have hcell : ∀ (i : Nat) (v : Value), (l.map i64)[i]? = some v → cs[i]? = some v := by
    intro i v hv
    have hi : i < l.length := by simpa using (List.getElem?_eq_some_iff.1 hv).1
    have h1 := hel i hi
    rw [hone] at h1
    have hxi : xs[i]? = some (xs[i]'(by omega)) := List.getElem?_eq_getElem (by omega)
    rw [hxi] at h1
    obtain ⟨k, hk1, hk2, _⟩ := DataW.trod_int hE h1
    have hfst : (xs.map (·.1))[i]? = some (DataW.lit (.int .i64 k)) := by rw [List.getElem?_map, hxi, Option.map_some, hk2]
    rw [hxd, List.getElem?_map, List.getElem?_eq_getElem hi] at hfst
    simp at hfst
    have hci : cs.toList[i]? = some (.int .i64 k) := by
      have : ((cs.toList.drop (i * 1)).take 1)[0]? = some (.int .i64 k) := by rw [hk1]; rfl
      simpa [List.getElem?_take, List.getElem?_drop] using this
    rw [List.getElem?_map, List.getElem?_eq_getElem hi, Option.map_some] at hv
    have hv := Option.some.inj hv
    rw [← hv, i64, hfst]
    simpa using hci
  have h0 : ∃ v, (l.map i64)[0]? = some v := ⟨_, List.getElem?_eq_getElem (by simpa using hl)⟩
  obtain ⟨v0, hv0⟩ := h0
  have hc0 := World.var?_cell hg hvar 0
  rw [hcell 0 v0 hv0] at hc0
  obtain ⟨_, cs2, e, fr, hob, _⟩ := cell_plain hc0
  refine ⟨cs2, e, fr, hob, fun i v hv => ?_⟩
  have h3 := World.var?_cell hg hvar i
  rw [hcell i v hv] at h3
  obtain ⟨_, cs3, e3, fr3, hob3, hv3⟩ := cell_plain h3
  have : Obj.cells cs2 e fr = Obj.cells cs3 e3 fr3 := Option.some.inj (hob.symm.trans hob3)
  cases this
  simpa using hv3
end Go.Fl
set_option linter.unusedVariables false
namespace Go.Fl
open Go.RowKit
theorem im_of_var {P : Program} {W : World} {n : String} {g : Nat} {cs : Array Value} (hg : P.globalNamed n = some g) (h : W.var? P n = some cs) : ∃ e fr, imOf W g = some (.cells cs e fr) := by
  unfold World.var? at h
  rw [hg, Option.bind_some] at h
  unfold imOf
  split at h
  · rename_i c e fr heq
    exact ⟨e, fr, by rw [heq, Option.some.inj h]⟩
  · cases h
theorem cells_of_var {P : Program} {W : World} {n : String} {g : Nat} {cs : Array Value} (hg : P.globalNamed n = some g) (h : W.var? P n = some cs) : Cells (imOf W) g 0 cs.toList := by
  obtain ⟨e, fr, h1⟩ := im_of_var hg h
  exact ⟨cs, e, fr, h1, fun i v hv => by rw [Nat.zero_add]; simpa using hv⟩
theorem cells_of_cell {W : World} {b : Nat} {v : Value} (h : W.cell? ⟨b, 0, none⟩ = some v) : Cells (imOf W) b 0 [v] := by
  obtain ⟨_, cs, e, fr, h1, h2⟩ := cell_plain h
  refine ⟨cs, e, fr, h1, fun i u hu => ?_⟩
  cases i with
  | zero => simp at hu; subst hu; simpa using h2
  | succ i => simp at hu
theorem strs_laid {P : Program} {W : World} {n : String} {d : DataW Unit} {l : List (List UInt8)} {g : Nat} {T E : TypeId} (hg : P.globalNamed n = some g) (ht : (P.globals[g]?).map (·.type) = some T) (hT : P.underlying T = some (.array l.length E))
    (hE : P.underlying E = some .string) (hone : P.cellsOf E = 1) (hct : P.cellsOf T = l.length) (hd : d = .agg (l.map fun s => .lit (.string s))) (h : laidMet P [(n, d)] W) : Cells (imOf W) g 0 (l.map fun s => .string ⟨s.toArray⟩) := by
  obtain ⟨ps, ⟨g2, t, cs, fuel, p, q, hg2, ht2, hvar, htr, _, _⟩, _⟩ := h
  obtain rfl := Option.some.inj (hg.symm.trans hg2)
  obtain rfl := Option.some.inj (ht.symm.trans ht2)
  obtain ⟨xs, m, _, hx, hlen, hxl, hel⟩ := DataW.trod_array hT htr
  have hxd : xs.map (·.1) = l.map fun s => DataW.lit (.string s) := by
    have := (Prod.mk.inj hx).1
    rw [hd] at this
    injection this with h2
    exact h2.symm
  have hcell : ∀ (i : Nat) (v : Value), (l.map fun s => Value.string ⟨s.toArray⟩)[i]? = some v → cs[i]? = some v := by
    intro i v hv
    have hi : i < l.length := by simpa using (List.getElem?_eq_some_iff.1 hv).1
    have h1 := hel i hi
    rw [hone] at h1
    have hxi : xs[i]? = some (xs[i]'(by omega)) := List.getElem?_eq_getElem (by omega)
    rw [hxi] at h1
    obtain ⟨s, hk1, hk2, _⟩ := DataW.trod_string hE h1
    have hfst : (xs.map (·.1))[i]? = some (DataW.lit (.string s.data.toList)) := by rw [List.getElem?_map, hxi, Option.map_some, hk2]
    rw [hxd, List.getElem?_map, List.getElem?_eq_getElem hi] at hfst
    simp at hfst
    have hci : cs.toList[i]? = some (.string s) := by
      have : ((cs.toList.drop (i * 1)).take 1)[0]? = some (.string s) := by rw [hk1]; rfl
      simpa [List.getElem?_take, List.getElem?_drop] using this
    rw [List.getElem?_map, List.getElem?_eq_getElem hi, Option.map_some] at hv
    have hv := Option.some.inj hv
    rw [← hv, hfst]
    have e : (⟨s.data.toList.toArray⟩ : ByteArray) = s := by cases s; simp
    rw [e]; simpa using hci
  have hc := cells_of_var hg hvar
  obtain ⟨cs2, e, fr, h1, h2⟩ := hc
  exact ⟨cs2, e, fr, h1, fun i v hv => h2 i v (by have := hcell i v hv; simpa using this)⟩
theorem sent_laid {P : Program} {W : World} {n nm : String} {text : List UInt8} {d : DataW Unit} {g : Nat} {ti tp te ts : TypeId} {ms : Array (String × TypeId)} {f : Field} (hd : d = .iface nm (.ptr (.agg [.lit (.string text)])))
    (h : laidMet P [(n, d)] W) (hg : P.globalNamed n = some g) (ht : (P.globals[g]?).map (·.type) = some ti) (hi : P.underlying ti = some (.interface ms)) (hrow : ∀ u, P.typeName? 3 u = some nm → u = tp)
    (hp : P.underlying tp = some (.pointer te)) (he : P.underlying te = some (.struct #[f])) (hft : f.type = ts) (hfo : f.offset = 0) (hs : P.underlying ts = some .string) (hc : P.cellsOf te = 1) (hcs : P.cellsOf ts = 1) :
    ∃ t p, Cells (imOf W) g 0 [.iface t p] := by
  subst hd
  obtain ⟨a, s, h1, _⟩ := laid_sentinel h hg ht hi hrow hp he hft hfo hs hc hcs
  exact ⟨_, _, cells_of_var hg h1⟩
end Go.Fl
namespace Go
variable {H : Type} {enc : TypeId × Value → H}
theorem returnsInHanded_andS {a : Assume} {C : Checked} {os : Os} {f : FuncId} {fn : Func} {s : ChangeSpec} {conds : List PathCond} {apart fresh handsOn again : Bool} {X : World → Array Value → Prop}
    (hX : ∀ (w w' : World) (args : Array Value), w.heap = w'.heap → X w args → X w' args)
    (own : ownKnob C.prog.godebug = none) (started : os.Started) (noInit : C.prog.inits.idxOf? f = none) (hfn : C.prog.funcs[f]? = some fn)
    (witness : ∃ (w : World) (tape : Tape) (i : Input), w.os = os ∧ (w.forCall tape i).Shaped C.prog ∧ i.vars = [] ∧ Input.okWide C.prog (w.forCall tape i) .any w.heap.size f i ∧
      ((s.pre enc C.prog fn conds apart (w.forCall tape i).memory i.args ∧ X (w.forCall tape i).memory i.args) ∧ sizedMet enc C.prog fn (OpenSpec.ofChange s) apart (w.forCall tape i).memory i.args) ∧ a.holds C.prog (lone (Frame.enter C.prog f i.args .normal) [] (w.forCall tape i)))
    (contract : ∀ (W : World) (base : Nat) (args : Array Value) (ds gs : List (DataW H)) (before : List MemPlace),
      (∀ (j : Nat) t v, fn.params[j]? = some t → args[j]? = some v → Value.okWide C.prog W .any base t v) →
      DataW.Whole enc C.prog fn.params.toList s.vars apart W args.toList ds gs before →
      conds.all (PathCond.test C.prog ⟨fn.params.toList, ds, s.plain.varTypes C.prog, gs⟩) = true →
      W.ShapedOpen C.prog → X W args →
      a.holds C.prog (lone (Frame.enter C.prog f args .normal) [] W) →
      Calls C.prog f args W fun e W' => ∃ v, e = .returned v ∧ s.post enc C.prog fn apart fresh handsOn again W args v W') :
    ReturnsInHanded a C os f .any (fun w args => (s.pre enc C.prog fn conds apart w args ∧ X w args) ∧ sizedMet enc C.prog fn (OpenSpec.ofChange s) apart w args) (s.post enc C.prog fn apart fresh handsOn again) := by
  refine returnsInHanded_of_calls own started noInit witness ?_
  intro w tape i _ hsh _ hok hpre hholds
  obtain ⟨_, _, _, fn', hfn', _, _, _, _, hval⟩ := hok
  have e : fn' = fn := Option.some.inj (hfn'.symm.trans hfn)
  subst e
  obtain ⟨⟨⟨ds, gs, before, hw, hc⟩, hx⟩, hz⟩ := hpre
  refine (contract (w.forCall tape i) w.heap.size i.args ds gs before hval (DataW.Whole.of_heap (w' := w.forCall tape i) (by rfl) hw) hc hsh (hX _ _ _ (by rfl) hx) hholds).mono fun e W' ⟨v, he, hp⟩ => ?_
  subst he
  exact ChangeSpec.post_blind hp
end Go
