/- The laws of layer 10. -/
import Derived.Test.YtiekhjbhlekaeaaDoorAe
set_option maxRecDepth 1000000
set_option linter.unusedVariables false
set_option linter.unusedSimpArgs false
namespace Go.Proofs.YtiekhjbhlekaeaaDoor
open Go.Fl Go.Ab Go.Mac Go.Sha
structure Made (a : Alg) (n : Nat) (k : Tag) (m : List UInt8) (b : Alg) (t : Tag) : Prop where
  mac : algMac a k m = (b, t, 0)
  again : algMac b k m = (b, t, 0)
  look : algLook b k m = (t, true)
  len : b.Macs.length ≤ a.Macs.length + 1
  len2 : a.Macs.length ≤ b.Macs.length
  old : ∀ i (h : i < a.Macs.length), algLook b a.Macs[i].Key a.Macs[i].Message = (a.Macs[i].Tag, true)
  ok : AlgOk b (n + 1)
theorem AlgOk.lookAt {a : Alg} {n : Nat} (h : AlgOk a n) (i : Nat) (hi : i < a.Macs.length) : algLook a a.Macs[i].Key a.Macs[i].Message = (a.Macs[i].Tag, true) := by
  obtain ⟨h1, h2⟩ := h.tag i hi
  unfold algLook
  cases hf : a.Free with
  | true =>
    rw [if_pos rfl]
    unfold algEntry algFind
    rw [h.uniq i hi]
  | false =>
    rw [if_neg (by decide), if_neg (by omega), h2, hf]; rfl
theorem AlgOk.made {a : Alg} {n : Nat} (h : AlgOk a n) (hn : n < 60000) {k : Tag} {m : List UInt8} (hm : m.length ≤ 1000) : ∃ b t, Made a n k m b t := by
  have h1 := h.macs
  have hok := h.mac (by omega) (k := k) hm
  cases hf : algFind a k m with
  | some x =>
    have e : algMac a k m = (a, x.Tag, 0) := by unfold algMac; rw [if_neg (by omega), hf]
    rw [e] at hok
    obtain ⟨i, hi, rfl⟩ := List.getElem_of_mem (List.mem_of_find?_eq_some hf)
    have hx := (macEq_iff k m _).1 (List.find?_some hf)
    have hl := h.lookAt i hi
    rw [hx.1, hx.2] at hl
    exact ⟨a, _, e, e, hl, by omega, by omega, fun j hj => h.lookAt j hj, hok⟩
  | none =>
    have e := algMac_new (a := a) (k := k) (m := m) (by omega) hf (by omega)
    rw [e] at hok
    have hi : a.Macs.length < (a.Macs ++ [(⟨k, m, newTag a k m⟩ : G_api_Mac)]).length := by simp
    have hl := hok.lookAt a.Macs.length hi
    have hu := hok.uniq a.Macs.length hi
    simp only [List.getElem_concat_length] at hl hu
    refine ⟨_, _, e, ?_, hl, by simp, by simp, fun j hj => ?_, hok⟩
    · unfold algMac algFind
      rw [if_neg (by omega), hu]
    · have hj2 : j < (a.Macs ++ [(⟨k, m, newTag a k m⟩ : G_api_Mac)]).length := by simp; omega
      have := hok.lookAt j hj2
      simp only [List.getElem_append_left hj] at this
      exact this
theorem mac_as {a b : Alg} {k t : Tag} {m : List UInt8} {e : Int} (hl : a.Macs.length ≤ 1000000) (h : algMac a k m = (b, t, e)) : FunA gl Tryd.prog 21 [.v a, .v k, .v m] (fun r => r = .t3 (.v b) (.v t) (.v e)) :=
  (algMac_c a k m hl).mono fun r hr => by rw [hr, h]
theorem rMac_as {a b : Alg} {k t : Tag} {m : List UInt8} {e : Int} (h : algMac a k m = (b, t, e)) : FunA gl Tryd.prog 22 [.v a, .v k, .v m] (fun r => r = .t3 (.v b) (.v t) (.v e)) :=
  (rMac_c a k m).mono fun r hr => by rw [hr, h]
theorem look_as {a : Alg} {k t : Tag} {m : List UInt8} {e : Bool} (h : algLook a k m = (t, e)) : FunA gl Tryd.prog 25 [.v a, .v k, .v m] (fun r => r = .t2 (.v t) (.v e)) :=
  (algLook_c a k m).mono fun r hr => by rw [hr, h]
theorem key_as {a b : Alg} {t : Tag} {e : Int} (h0 : 0 ≤ a.Fresh) (h : algKey a = (b, t, e)) : FunA gl Tryd.prog 27 [.v a] (fun r => r = .t3 (.v b) (.v t) (.v e)) :=
  (algKey_c a h0).mono fun r hr => by rw [hr, h]
theorem made_c {a : Alg} {n : Nat} (h : AlgOk a n) (hn : n < 60000) (k : Tag) (m : List UInt8) (hm : m.length ≤ 1000) : FunA gl Tryd.prog 21 [.v a, .v k, .v m] (fun r => ∃ b t, r = .t3 (.v b) (.v t) (.v (0 : Int)) ∧ Made a n k m b t) := by
  obtain ⟨b, t, hb⟩ := h.made hn hm (k := k)
  exact (mac_as (by have := h.macs; omega) hb.mac).mono fun r hr => ⟨b, t, hr, hb⟩
theorem short10_c (b : List UInt8) : FunA gl Tryd.prog 16 [.v b] (fun r => ∃ l : List UInt8, l.length ≤ 200 ∧ r = .v l) := by
  refine FunA.intro Tryd.func16 rfl (by kernel_rfl) 8 rfl rfl _ rfl fun C hC hG => ?_
  refine .seq ?_
  refine .region rfl ?_
  refine .p (.assign (.nilS (α := UInt8)) ?_)
  refine .nil ?_
  refine .seq ?_
  refine .region rfl ?_
  refine .p (.move (.t rfl) (.p (.move (.t rfl) (.p (.len Tryd.underlying23 (.t rfl) (.p (.minI (.t rfl) (.i rfl) (.p (.slHi ty5 Tryd.underlying23 (.t rfl) (.t rfl) (by first | omega | (simp; done) | (simp; omega) | (simp at *; omega)) (by first | omega | (simp; done) | (simp; omega) | (simp at *; omega)) (.p (.assign (.t rfl) ?_)))))))))))
  refine .nil ?_
  refine .ret ?_
  refine ⟨_, .r1 rfl (.tmp rfl), ?_⟩
  exact ⟨_, by simp; omega, rfl⟩
def aw0 : Alg := ⟨true, default, 0, [], []⟩
def aw1 (t : Tag) : Alg := ⟨true, default, 0, [⟨t, [120], symTag 109 1⟩], []⟩
theorem aw_1 (t : Tag) : algMac aw0 t [120] = (aw1 t, symTag 109 1, 0) := by
  rw [algMac_new (by decide) rfl (by decide)]; rfl
theorem aw_2 (t : Tag) : algMac (aw1 t) t [120] = (aw1 t, symTag 109 1, 0) := by
  unfold algMac algFind
  rw [if_neg (by decide)]
  have : (aw1 t).Macs.find? (macEq t [120]) = some ⟨t, [120], symTag 109 1⟩ := by simp [aw1, macEq]
  rw [this]
theorem aw_3 (t : Tag) : (algLook (aw1 t) t [121]).2 = false := by
  unfold algLook algEntry algFind
  rw [if_pos (show (aw1 t).Free = true from rfl)]
  have : (aw1 t).Macs.find? (macEq t [121]) = none := by simp [aw1, macEq]
  rw [this]
theorem aw_all (t : Tag) : (decide ((algMac aw0 t [120]).2.2 = 0) && decide ((algMac (algMac aw0 t [120]).1 t [120]).2.2 = 0) && decide ((algMac aw0 t [120]).2.1 = (algMac (algMac aw0 t [120]).1 t [120]).2.1) && decide ((algMac aw0 t [120]).2.1 = symTag 109 1) &&
    decide (((algMac (algMac aw0 t [120]).1 t [120]).1.Macs.length : Int) = 1) && !(algLook (algMac (algMac aw0 t [120]).1 t [120]).1 t [121]).2) = true := by
  rw [aw_1]; simp only []; rw [aw_2]; simp only []; rw [aw_3]
  simp [aw1]
theorem awake10_c : FunA gl Tryd.prog 24 [] (fun r => r = .v true) := by
  refine FunA.intro Tryd.func24 rfl (by kernel_rfl) 62 rfl rfl _ rfl fun C hC hG => ?_
  refine .seq ?_
  refine .region rfl ?_
  refine .p (.assign .b ?_)
  refine .nil ?_
  refine .seq ?_
  refine .region rfl ?_
  refine .p (.buildA (default : (Arr 32 UInt8)) ty28 ar28 .nil rfl (.p (.call1 hG (algNew_c _ _) (.cons .b (.cons (.t rfl) .nil)) (.p (.buildA _ ty28 ar28 (.cons (Lens.idx 0 (by decide)) _ rfl (.u8 1 rfl) .nil) rfl (.h (.buildSlice (α := UInt8) ty5 Tryd.underlying23 (.cons (.u8 120 rfl) .nil) rfl (by decide) fun b13 => .h (.same Tryd.underlying23 Tryd.underlying5 rfl .z (by simp) ?_))))))))
  refine .frzOwn hC .z ?_
  refine .as 14 rfl .z ?_
  refine .p (.call1 hG (algMac_c _ _ _ (by decide)) (.cons (.t rfl) (.cons (.t rfl) (.cons (.t rfl) .nil))) (.p (.move (.t rfl) (.p (.ext3_0 (.t rfl) (.p (.ext3_1 (.t rfl) (.p (.ext3_2 (.t rfl) (.h (.alloc ty32 fun b1 => ?_)))))))))))
  refine .h (.alloc ty28 fun b2 => .n (.stW ty32 (.t rfl) (.t rfl) (.s .z) (.n (.stW ty28 (.t rfl) (.t rfl) .z (.p (.assign (.t rfl) ?_))))))
  refine .nil ?_
  refine .seq ?_
  refine .region rfl ?_
  refine .p (.ldW ty32 (.t rfl) (.s .z) (.p (.buildA _ ty28 ar28 (.cons (Lens.idx 0 (by decide)) _ rfl (.u8 1 rfl) .nil) rfl (.h (.buildSlice (α := UInt8) ty5 Tryd.underlying23 (.cons (.u8 120 rfl) .nil) rfl (by decide) fun b22 => .h (.same Tryd.underlying23 Tryd.underlying5 rfl .z (by simp) ?_))))))
  refine .frzOwn hC .z ?_
  refine .as 23 rfl .z ?_
  refine .p (.call1 hG (algMac_c _ _ _ (by decide)) (.cons (.t rfl) (.cons (.t rfl) (.cons (.t rfl) .nil))) (.p (.move (.t rfl) (.p (.ext3_0 (.t rfl) (.p (.ext3_1 (.t rfl) (.p (.ext3_2 (.t rfl) (.h (.alloc ty32 fun b4 => ?_)))))))))))
  refine .h (.alloc ty28 fun b5 => .n (.stW ty32 (.t rfl) (.t rfl) (.s .z) (.n (.stW ty28 (.t rfl) (.t rfl) .z (.p (.assign (.t rfl) ?_))))))
  refine .nil ?_
  refine .seq ?_
  refine .region rfl ?_
  refine .p (.ldW ty32 (.t rfl) (.s .z) (.p (.buildA _ ty28 ar28 (.cons (Lens.idx 0 (by decide)) _ rfl (.u8 1 rfl) .nil) rfl (.h (.buildSlice (α := UInt8) ty5 Tryd.underlying23 (.cons (.u8 121 rfl) .nil) rfl (by decide) fun b31 => .h (.same Tryd.underlying23 Tryd.underlying5 rfl .z (by simp) ?_))))))
  refine .frzOwn hC .z ?_
  refine .as 32 rfl .z ?_
  refine .p (.call1 hG (algLook_c _ _ _) (.cons (.t rfl) (.cons (.t rfl) (.cons (.t rfl) .nil))) (.p (.move (.t rfl) (.p (.ext2_0 (.t rfl) (.p (.ext2_1 (.t rfl) (.h (.alloc ty28 fun b7 => .n (.stW ty28 (.t rfl) (.t rfl) .z ?_))))))))))
  refine .p (.assign (.t rfl) ?_)
  refine .nil ?_
  refine .seq ?_
  refine .draw (by kernel_rfl) 27 [[], [(36, 0)], [(37, 1)], [], [(39, 3)], [(38, 2), (40, 4)], [(41, 5)], [], [], [(43, 7), (44, 8)], [(42, 6), (45, 9)], [(46, 10)], [], [], [(48, 12), (49, 13)], [(47, 11), (50, 14)], [(51, 15)], [], [(53, 17)], [(54, 18)], [(55, 19)], [(52, 16), (56, 20)], [(57, 21)], [], [(59, 23)], [(58, 22), (60, 24)], [(61, 25)]] rfl (by kernel_rfl) rfl ?_
  refine ⟨_, OpP.move (.t rfl) rfl, ?_⟩
  refine ⟨_, OpP.eqlI (.t rfl) (.i rfl) rfl, ?_⟩
  refine ⟨_, OpP.move (.t rfl) rfl, ?_⟩
  refine ⟨_, ⟨_, _, rfl, rfl, fun hg39 => OpP.move (.t rfl) rfl⟩, ?_⟩
  refine ⟨_, ⟨_, _, rfl, rfl, fun hg40 => OpP.eqlI (.o rfl (beq_iff_eq.2 hg40)) (.i rfl) rfl⟩, ?_⟩
  refine ⟨_, OpP.pickAnd (.t rfl) (fun hp => (.o rfl (beq_iff_eq.2 hp))) rfl, ?_⟩
  refine ⟨_, OpP.move (.t rfl) rfl, ?_⟩
  refine ⟨_, ⟨_, _, rfl, rfl, fun hg43 => OpP.ldW ty28 (.t rfl) (.s (.s (.s (.s (.s .z))))) rfl⟩, ?_⟩
  refine ⟨_, ⟨_, _, rfl, rfl, fun hg44 => OpP.ldW ty28 (.t rfl) (.s (.s .z)) rfl⟩, ?_⟩
  refine ⟨_, ⟨_, _, rfl, rfl, fun hg45 => OpP.eqlA8 Tryd.underlying28 sz5 Tryd.underlying5 gd28 (.o rfl (beq_iff_eq.2 hg45)) (.o rfl (beq_iff_eq.2 hg45)) rfl⟩, ?_⟩
  refine ⟨_, OpP.pickAnd (.t rfl) (fun hp => (.o rfl (beq_iff_eq.2 hp))) rfl, ?_⟩
  refine ⟨_, OpP.move (.t rfl) rfl, ?_⟩
  refine ⟨_, ⟨_, _, rfl, rfl, fun hg48 => OpP.ldW ty28 (.t rfl) (.s (.s (.s (.s (.s .z))))) rfl⟩, ?_⟩
  refine ⟨_, ⟨_, _, rfl, rfl, fun hg49 => OpP.call1 hG (Symbol_c _ _) (.cons (.u8 109 rfl) (.cons (.i rfl) .nil)) rfl⟩, ?_⟩
  refine ⟨_, ⟨_, _, rfl, rfl, fun hg50 => OpP.eqlA8 Tryd.underlying28 sz5 Tryd.underlying5 gd28 (.o rfl (beq_iff_eq.2 hg50)) (.o rfl (beq_iff_eq.2 hg50)) rfl⟩, ?_⟩
  refine ⟨_, OpP.pickAnd (.t rfl) (fun hp => (.o rfl (beq_iff_eq.2 hp))) rfl, ?_⟩
  refine ⟨_, OpP.move (.t rfl) rfl, ?_⟩
  refine ⟨_, ⟨_, _, rfl, rfl, fun hg53 => OpP.fldW G_api_Algebra.l3 fd32_3 rfl (.t rfl) rfl⟩, ?_⟩
  refine ⟨_, ⟨_, _, rfl, rfl, fun hg54 => OpP.ldF (fun x => x.Macs) ty29 (.o rfl (beq_iff_eq.2 hg54)) (.s (.s (.s .z))) (fun _ => rfl) rfl⟩, ?_⟩
  refine ⟨_, ⟨_, _, rfl, rfl, fun hg55 => OpP.len Tryd.underlying29 (.o rfl (beq_iff_eq.2 hg55)) rfl⟩, ?_⟩
  refine ⟨_, ⟨_, _, rfl, rfl, fun hg56 => OpP.eqlI (.o rfl (beq_iff_eq.2 hg56)) (.i rfl) rfl⟩, ?_⟩
  refine ⟨_, OpP.pickAnd (.t rfl) (fun hp => (.o rfl (beq_iff_eq.2 hp))) rfl, ?_⟩
  refine ⟨_, OpP.move (.t rfl) rfl, ?_⟩
  refine ⟨_, ⟨_, _, rfl, rfl, fun hg59 => OpP.move (.t rfl) rfl⟩, ?_⟩
  refine ⟨_, ⟨_, _, rfl, rfl, fun hg60 => OpP.not (.o rfl (beq_iff_eq.2 hg60)) rfl⟩, ?_⟩
  refine ⟨_, OpP.pickAnd (.t rfl) (fun hp => (.o rfl (beq_iff_eq.2 hp))) rfl, ?_⟩
  refine ⟨_, OpP.assign (.t rfl) rfl, ?_⟩
  show wpB _ _ _ _ _ _ ((0, _) :: (61, _) :: (60, _) :: (59, _) :: (58, _) :: (57, _) :: (56, _) :: (55, _) :: (54, _) :: (53, _) :: (52, _) :: (51, _) :: (50, _) :: (49, _) :: (48, _) :: (47, _) :: (46, _) :: (45, _) :: (44, _) :: (43, _) :: (42, _) :: (41, _) :: (40, _) :: (39, _) :: (38, _) :: (37, _) :: (36, _) :: _) _
  refine .nil ?_
  refine .ret ?_
  refine ⟨_, .r1 rfl (.tmp rfl), ?_⟩
  exact congrArg AV.v (aw_all _)
theorem AlgebraKey_c (free : Bool) (seed : Tag) (kind : UInt8) (n : Int) (deck : List Int) : FunA gl Tryd.prog 7 [.v free, .v seed, .v kind, .v n, .v deck] (fun r => r = .v true) := by
  refine FunA.intro Tryd.func7 rfl (by kernel_rfl) 67 rfl rfl _ rfl fun C hC hG => ?_
  refine .seq ?_
  refine .region rfl ?_
  refine .h (.box (.t rfl) fun b6 => .p (.assign .b ?_))
  refine .nil ?_
  refine .seq ?_
  refine .region rfl ?_
  refine .p (.move (.t rfl) (.h (.call0 hG (deckNew_c _) (.cons (.t rfl) .nil) fun r19 Hs19 hr19 => ?_)))
  obtain ⟨b19, rfl, rfl⟩ := hr19
  show wpB _ _ _ _ _ _ _ ((true, _) :: _)
  have hd : DeckOk (⟨deck, 0⟩ : G_macaroonmade_Deck) := Int.le_refl 0
  refine .h (.callM hG (Algebra_deck_c _ _ (by assumption)) .z (.cons (.t rfl) .nil) (by rintro _ _ ⟨_, _, _, _, _, rfl⟩; exact ⟨_, rfl⟩) fun r20 B20 hr20 => ?_)
  obtain ⟨a, d20, ha, hd20, rfl, hB⟩ := hr20
  cases hB
  refine .h (.alloc ty32 fun b11 => .n (.stW ty32 (.t rfl) (.t rfl) .z ?_))
  refine .nil ?_
  refine .seq ?_
  refine .region rfl ?_
  refine .p (.ldW ty32 (.t rfl) .z (.p (.call1 hG (algKey_c _ ha.fresh0) (.cons (.t rfl) .nil) (.p (.move (.t rfl) (.p (.ext3_0 (.t rfl) (.p (.ext3_1 (.t rfl) (.p (.ext3_2 (.t rfl) ?_)))))))))))
  refine .h (.alloc ty32 fun b12 => .h (.alloc ty28 fun b13 => .n (.stW ty32 (.t rfl) (.t rfl) (.s .z) (.n (.stW ty28 (.t rfl) (.t rfl) .z (.p (.assign (.t rfl) ?_)))))))
  refine .nil ?_
  refine .seq ?_
  refine .region rfl ?_
  refine .p (.ldW ty32 (.t rfl) (.s (.s .z)) (.p (.call1 hG (rKey_c _ ha.fresh0) (.cons (.t rfl) .nil) (.p (.move (.t rfl) (.p (.ext3_0 (.t rfl) (.p (.ext3_1 (.t rfl) (.p (.ext3_2 (.t rfl) ?_)))))))))))
  refine .h (.alloc ty32 fun b15 => .h (.alloc ty28 fun b16 => .n (.stW ty32 (.t rfl) (.t rfl) (.s .z) (.n (.stW ty28 (.t rfl) (.t rfl) .z (.p (.assign (.t rfl) ?_)))))))
  refine .nil ?_
  refine .seq ?_
  refine .draw (by kernel_rfl) 35 [[], [], [(33, 0), (34, 1)], [], [], [(36, 3), (37, 4)], [(35, 2), (38, 5)], [(39, 6)], [], [], [(41, 8), (42, 9)], [], [], [(44, 11), (45, 12)], [(43, 10), (46, 13)], [(40, 7), (47, 14)], [(48, 15)], [], [], [(50, 17), (51, 18)], [(49, 16), (52, 19)], [(53, 20)], [], [], [(55, 22), (56, 23)], [(54, 21), (57, 24)], [(58, 25)], [], [], [(60, 27), (61, 28)], [(59, 26), (62, 29)], [(63, 30)], [], [(64, 31), (65, 32)], [(66, 33)]] rfl (by kernel_rfl) rfl ?_
  refine ⟨_, OpP.move (.t rfl) rfl, ?_⟩
  refine ⟨_, OpP.ldW ty28 (.t rfl) (.s (.s (.s (.s (.s (.s .z)))))) rfl, ?_⟩
  refine ⟨_, OpP.call1 hG (algNew_c _ _) (.cons (.t rfl) (.cons (.t rfl) .nil)) rfl, ?_⟩
  refine ⟨_, OpP.move (.t rfl) rfl, ?_⟩
  refine ⟨_, OpP.ldW ty28 (.t rfl) (.s (.s (.s (.s (.s (.s .z)))))) rfl, ?_⟩
  refine ⟨_, OpP.call1 hG (rNew_c _ _) (.cons (.t rfl) (.cons (.t rfl) .nil)) rfl, ?_⟩
  refine ⟨_, OpP.call1 hG (sameAlg_c _) (.cons (.t rfl) (.cons (.t rfl) .nil)) rfl, ?_⟩
  refine ⟨_, OpP.move (.t rfl) rfl, ?_⟩
  refine ⟨_, ⟨_, _, rfl, rfl, fun hg41 => OpP.move (.t rfl) rfl⟩, ?_⟩
  refine ⟨_, ⟨_, _, rfl, rfl, fun hg42 => OpP.move (.t rfl) rfl⟩, ?_⟩
  refine ⟨_, ⟨_, _, rfl, rfl, fun hg43 => OpP.call1 hG (Symbol_c _ _) (.cons (.o rfl (beq_iff_eq.2 hg43)) (.cons (.o rfl (beq_iff_eq.2 hg43)) .nil)) rfl⟩, ?_⟩
  refine ⟨_, ⟨_, _, rfl, rfl, fun hg44 => OpP.move (.t rfl) rfl⟩, ?_⟩
  refine ⟨_, ⟨_, _, rfl, rfl, fun hg45 => OpP.move (.t rfl) rfl⟩, ?_⟩
  refine ⟨_, ⟨_, _, rfl, rfl, fun hg46 => OpP.call1 hG (rSymbol_c _ _) (.cons (.o rfl (beq_iff_eq.2 hg46)) (.cons (.o rfl (beq_iff_eq.2 hg46)) .nil)) rfl⟩, ?_⟩
  refine ⟨_, ⟨_, _, rfl, rfl, fun hg47 => OpP.eqlA8 Tryd.underlying28 sz5 Tryd.underlying5 gd28 (.o rfl (beq_iff_eq.2 hg47)) (.o rfl (beq_iff_eq.2 hg47)) rfl⟩, ?_⟩
  refine ⟨_, OpP.pickAnd (.t rfl) (fun hp => (.o rfl (beq_iff_eq.2 hp))) rfl, ?_⟩
  refine ⟨_, OpP.move (.t rfl) rfl, ?_⟩
  refine ⟨_, ⟨_, _, rfl, rfl, fun hg50 => OpP.ldW ty32 (.t rfl) (.s (.s (.s .z))) rfl⟩, ?_⟩
  refine ⟨_, ⟨_, _, rfl, rfl, fun hg51 => OpP.ldW ty32 (.t rfl) (.s .z) rfl⟩, ?_⟩
  refine ⟨_, ⟨_, _, rfl, rfl, fun hg52 => OpP.call1 hG (sameAlg_c _) (.cons (.o rfl (beq_iff_eq.2 hg52)) (.cons (.o rfl (beq_iff_eq.2 hg52)) .nil)) rfl⟩, ?_⟩
  refine ⟨_, OpP.pickAnd (.t rfl) (fun hp => (.o rfl (beq_iff_eq.2 hp))) rfl, ?_⟩
  refine ⟨_, OpP.move (.t rfl) rfl, ?_⟩
  refine ⟨_, ⟨_, _, rfl, rfl, fun hg55 => OpP.ldW ty28 (.t rfl) (.s (.s .z)) rfl⟩, ?_⟩
  refine ⟨_, ⟨_, _, rfl, rfl, fun hg56 => OpP.ldW ty28 (.t rfl) .z rfl⟩, ?_⟩
  refine ⟨_, ⟨_, _, rfl, rfl, fun hg57 => OpP.eqlA8 Tryd.underlying28 sz5 Tryd.underlying5 gd28 (.o rfl (beq_iff_eq.2 hg57)) (.o rfl (beq_iff_eq.2 hg57)) rfl⟩, ?_⟩
  refine ⟨_, OpP.pickAnd (.t rfl) (fun hp => (.o rfl (beq_iff_eq.2 hp))) rfl, ?_⟩
  refine ⟨_, OpP.move (.t rfl) rfl, ?_⟩
  refine ⟨_, ⟨_, _, rfl, rfl, fun hg60 => OpP.move (.t rfl) rfl⟩, ?_⟩
  refine ⟨_, ⟨_, _, rfl, rfl, fun hg61 => OpP.move (.t rfl) rfl⟩, ?_⟩
  refine ⟨_, ⟨_, _, rfl, rfl, fun hg62 => OpP.eqlI (.o rfl (beq_iff_eq.2 hg62)) (.o rfl (beq_iff_eq.2 hg62)) rfl⟩, ?_⟩
  refine ⟨_, OpP.pickAnd (.t rfl) (fun hp => (.o rfl (beq_iff_eq.2 hp))) rfl, ?_⟩
  refine ⟨_, OpP.move (.t rfl) rfl, ?_⟩
  refine ⟨_, ⟨_, _, rfl, rfl, fun hg65 => OpP.call1 hG (awake10_c) .nil rfl⟩, ?_⟩
  refine ⟨_, OpP.pickAnd (.t rfl) (fun hp => (.o rfl (beq_iff_eq.2 hp))) rfl, ?_⟩
  refine ⟨_, OpP.assign (.t rfl) rfl, ?_⟩
  show wpB _ _ _ _ _ _ ((10, _) :: (66, _) :: (65, _) :: (64, _) :: (63, _) :: (62, _) :: (61, _) :: (60, _) :: (59, _) :: (58, _) :: (57, _) :: (56, _) :: (55, _) :: (54, _) :: (53, _) :: (52, _) :: (51, _) :: (50, _) :: (49, _) :: (48, _) :: (47, _) :: (46, _) :: (45, _) :: (44, _) :: (43, _) :: (42, _) :: (41, _) :: (40, _) :: (39, _) :: (38, _) :: (37, _) :: (36, _) :: (35, _) :: (34, _) :: (33, _) :: _) _
  refine .nil ?_
  refine .ret ?_
  refine ⟨_, .r1 rfl (.tmp rfl), ?_⟩
  simp
theorem AlgebraMac_c (deck : List Int) (m : List UInt8) (n : UInt8) : FunA gl Tryd.prog 3 [.v deck, .v m, .v n] (fun r => r = .v true) := by
  refine FunA.intro Tryd.func3 rfl (by kernel_rfl) 96 rfl rfl _ rfl fun C hC hG => ?_
  refine .seq ?_
  refine .region rfl ?_
  refine .p (.assign .b ?_)
  refine .nil ?_
  refine .seq ?_
  refine .region rfl ?_
  refine .p (.move (.t rfl) (.p (.call hG (short10_c _) (.cons (.t rfl) .nil) fun r20 hr20 => ?_)))
  obtain ⟨m, hm, rfl⟩ := hr20
  refine .p (.assign (.t rfl) ?_)
  refine .nil ?_
  refine .seq ?_
  refine .region rfl ?_
  refine .p (.move (.t rfl) (.h (.call0 hG (deckNew_c _) (.cons (.t rfl) .nil) fun r22 Hs22 hr22 => ?_)))
  obtain ⟨b22, rfl, rfl⟩ := hr22
  show wpB _ _ _ _ _ _ _ ((true, _) :: _)
  have hd : DeckOk (⟨deck, 0⟩ : G_macaroonmade_Deck) := Int.le_refl 0
  refine .p (.assign (.t rfl) ?_)
  refine .nil ?_
  refine .seq ?_
  refine .region rfl ?_
  refine .p (.move (.t rfl) (.h (.callM hG (Algebra_deck_c _ _ (by assumption)) .z (.cons (.t rfl) .nil) (by rintro _ _ ⟨_, _, _, _, _, rfl⟩; exact ⟨_, rfl⟩) fun r24 B24 hr24 => ?_)))
  obtain ⟨a, d24, ha, hd24, rfl, hB⟩ := hr24
  cases hB
  refine .h (.alloc ty32 fun b8 => .n (.stW ty32 (.t rfl) (.t rfl) .z ?_))
  refine .nil ?_
  refine .seq ?_
  refine .region rfl ?_
  refine .p (.move (.t rfl) (.p (.ldW ty32 (.t rfl) .z (.h (.callM hG (Known_deck_c _ _ _ (by assumption) (by have := ha.macs; omega) (by have := ha.boxes; omega)) (.s .z) (.cons (.t rfl) (.cons (.t rfl) .nil)) (by rintro _ _ ⟨_, _, _, _, rfl⟩; exact ⟨_, rfl⟩) fun r27 B27 hr27 => ?_)))))
  obtain ⟨k, d27, hd27, rfl, hB⟩ := hr27
  cases hB
  refine .h (.alloc ty28 fun b9 => .n (.stW ty28 (.t rfl) (.t rfl) .z ?_))
  refine .nil ?_
  refine .seq ?_
  refine .drawCF [false, false, true] (by kernel_rfl) 10 [[], [], [(29, 1)], [(30, 2)], [(31, 3)], [(32, 4)], [], [(34, 6)], [(28, 0), (33, 5), (35, 7)], [(36, 8)]] [7, 8, 9] rfl (by kernel_rfl) rfl (by kernel_rfl) (by decide) ?_
  refine ⟨_, fun H => OpP.move (.t rfl) rfl, ?_⟩
  refine ⟨_, fun H => OpP.move (.t rfl) rfl, ?_⟩
  refine ⟨_, fun H => OpP.convI8 Tryd.underlying5 Tryd.underlying3 (.t rfl) rfl, ?_⟩
  refine ⟨_, fun H => OpP.rem (.t rfl) (.i rfl) (by first | omega | (simp; done) | (simp; omega) | (simp at *; omega)) (by first | omega | (simp; done) | (simp; omega) | (simp at *; omega)) rfl, ?_⟩
  refine ⟨_, fun H => OpP.add (.i rfl) (.t rfl) (by first | omega | (simp; done) | (simp; omega) | (simp at *; omega)) (by first | omega | (simp; done) | (simp; omega) | (simp at *; omega)) rfl, ?_⟩
  refine ⟨_, fun H => OpP.makeF st23 (.t rfl) (by first | omega | (simp; done) | (simp; omega) | (simp at *; omega)) (by first | omega | (simp; done) | (simp; omega) | (simp at *; omega)) (by first | omega | (simp; done) | (simp; omega) | (simp at *; omega)) rfl, ?_⟩
  refine ⟨_, fun H => OpP.move (.t rfl) rfl, ?_⟩
  refine .inl ?_
  refine .inl ?_
  refine .inl ?_
  refine ⟨⟨([], fun k => List.getD [(true, .none_), (true, .none_), _] k (true, .none_)), rfl⟩, ?_⟩
  refine OpH.callM hG (Bytes_deck_c _ _ _ (by assumption) (by first | omega | (simp; done) | (simp; omega) | (simp at *; omega)) (by first | omega | (simp; done) | (simp; omega) | (simp at *; omega))) (.s (.s .z)) (.cons (.t rfl) (.cons (.i rfl) .nil)) (by rintro _ _ ⟨_, _, _, _, _, rfl⟩; exact ⟨_, rfl⟩) fun r35 B35 hr35 => ?_
  obtain ⟨l35, hl35, d35, hd35, rfl, hB⟩ := hr35
  cases hB
  refine ⟨⟨([], fun k => List.getD [(true, .none_), (true, .none_), _] k (true, .none_)), rfl⟩, ?_⟩
  refine OpH.buildSlice (α := (List UInt8)) ty23 Tryd.underlying36 (.cons (.t rfl) (.cons .nilS (.cons (.c rfl) (.cons (.t rfl) .nil)))) rfl (by decide) fun b36 => ?_
  refine ⟨⟨([_], fun k => List.getD [(true, .none_), (true, .none_), _] k (true, .none_)), rfl⟩, ?_⟩
  refine OpH.ofP (OpP.assign (.t rfl) ?_)
  refine ⟨⟨([_], fun k => List.getD [(true, .none_), (true, .none_), _] k (true, .none_)), rfl⟩, ?_⟩
  show wpB _ _ _ _ _ _ ((10, _) :: (36, _) :: (35, _) :: (34, _) :: (33, _) :: (32, _) :: (31, _) :: (30, _) :: (29, _) :: (28, _) :: _) _
  refine .nil ?_
  refine .seq ?_
  refine .seq ?_
  refine .forget (.s (.s (.s .z))) ?_
  refine .region rfl ?_
  refine .p (.assign (.i rfl) ?_)
  refine .nil ?_
  refine .block ?_
  refine .loopR (α := Nat × Value × List (List UInt8)) [(8, _), (9, _)] (fun x R => (10, .raw x.2.1) :: (11, .v (x.1 : Int)) :: R) (fun x => [(true, .own 23 x.2.1 x.2.2), (true, .ob (ptr b9 0) k), (true, .ob (ptr b8 0) a), (true, .none_)]) (fun x => x.1 ≤ a.Macs.length ∧ x.2.2.length ≤ 4 + x.1) (fun x => a.Macs.length - x.1) ((0, _, _)) (.cons rfl (.cons rfl (.nil _))) ?_ (.cons rfl (.cons rfl (.cons rfl (.cons rfl (.nil _))))) (rfl) fun x hF => ?_
  · exact ⟨Nat.zero_le _, by simp⟩
  obtain ⟨i, w, ls⟩ := x
  obtain ⟨h1, h2⟩ := hF
  dsimp only at h1 h2 ⊢
  have h3 := ha.macs
  refine .seq ?_
  refine .seq ?_
  refine .region rfl ?_
  refine .p (.move (.t rfl) (.p (.fldW G_api_Algebra.l3 fd32_3 rfl (.t rfl) (.p (.ldF (fun x => x.Macs) ty29 (.t rfl) (.s (.s .z)) (fun _ => rfl) (.p (.len Tryd.underlying29 (.t rfl) (.p (.lss (.t rfl) (.t rfl) ?_)))))))))
  refine .nil ?_
  refine .condP (.t rfl) (fun hc41 => ?_) (fun hc41 => ?_)
  · refine .skip ?_
    refine .seq ?_
    refine .block ?_
    refine .region rfl ?_
    refine .p (.move (.t rfl) (.p (.fldW G_api_Algebra.l3 fd32_3 rfl (.t rfl) (.p (.ldF (fun x => x.Macs) ty29 (.t rfl) (.s (.s .z)) (fun _ => rfl) (.p (.move (.t rfl) (.p (.idx ty38 Tryd.underlying29 (.t rfl) (.t rfl) (by first | omega | (simp; done) | (simp; omega) | (simp at *; omega)) (by first | omega | (simp; done) | (simp; omega) | (simp at *; omega)) (.p (.fldPF G_api_Mac.l1 (fun x => x.Message) fd38_1 rfl (fun _ => rfl) (.t rfl) ?_)))))))))))
    refine .p (.ldP ty23 (.t rfl) (.h (.buildSlice (α := (List UInt8)) ty23 Tryd.underlying36 (.cons (.t rfl) .nil) rfl (by decide) fun b51 => .h (.append st36 (.inl ⟨_, Tryd.underlying36⟩) rfl (.s .z) (.own rfl .z) (by first | omega | (simp; done) | (simp; omega) | (simp at *; omega)) (by first | omega | (simp; done) | (simp; omega) | (simp at *; omega)) (fun w52 => .p (.assign (.t rfl) ?_)) rfl))))
    refine .drop ?_
    refine .nil ?_
    refine .region rfl ?_
    refine .p (.move (.t rfl) (.p (.add (.t rfl) (.i rfl) (by first | omega | (simp; done) | (simp; omega) | (simp at *; omega)) (by first | omega | (simp; done) | (simp; omega) | (simp at *; omega)) (.p (.assign (.t rfl) ?_)))))
    refine .nil ?_
    refine ⟨(i + 1, w52, _), .cons rfl (.cons rfl (.cons rfl (.cons rfl (.nil _)))), rfl, ?_, by dsimp only; omega⟩
    exact ⟨by dsimp only; omega, by simp; omega⟩
  · refine .exit ?_
    refine .seq ?_
    refine .seq ?_
    refine .frzOwn hC .z ?_
    refine .as 10 rfl .z ?_
    refine .region rfl ?_
    refine .p (.assign (.i rfl) ?_)
    refine .nil ?_
    refine .block ?_
    refine .loopR (α := Nat) [(8, _), (9, _), (10, _)] (fun j R => (12, .v (j : Int)) :: R) (fun j => [(true, .fz w (.v ls)), (true, .ob (ptr b9 0) k), (true, .ob (ptr b8 0) a), (true, .none_)]) (fun j => j ≤ ls.length) (fun j => ls.length - j) (0) (.cons rfl (.cons rfl (.cons rfl (.nil _)))) ?_ (.cons rfl (.cons rfl (.cons rfl (.cons rfl (.nil _))))) (rfl) fun j hF => ?_
    · simp
    refine .seq ?_
    refine .seq ?_
    refine .region rfl ?_
    refine .p (.move (.t rfl) (.p (.move (.t rfl) (.p (.len Tryd.underlying36 (.t rfl) (.p (.lss (.t rfl) (.t rfl) ?_)))))))
    refine .nil ?_
    refine .condP (.t rfl) (fun hc56 => ?_) (fun hc56 => ?_)
    · refine .skip ?_
      refine .seq ?_
      refine .block ?_
      refine .seq ?_
      refine .drawA [false, false, false, false] [(11, (⟨G_api_Algebra, inferInstance, default⟩ : AT)), (12, (⟨(Arr 32 UInt8), inferInstance, default⟩ : AT))] (by kernel_rfl) 16 [[], [], [], [], [(62, 2), (63, 3)], [(64, 4)], [(60, 0), (61, 1), (65, 5)], [(66, 6)], [(59, 7)], [(59, 7)], [(59, 7)], [], [], [(13, 11), (67, 8)], [(14, 12), (68, 9)], [(69, 10)]] [13, 14] rfl (by kernel_rfl) rfl (by kernel_rfl) (by decide) (by simp) (List.forall_mem_cons.2 ⟨fun o ho => by obtain rfl := Option.some.inj (show some _ = some o from ho); exact ⟨rfl, fun _ _ => OpH.alloc ty32 fun b => ⟨b, rfl, rfl⟩⟩, (List.forall_mem_cons.2 ⟨fun o ho => by obtain rfl := Option.some.inj (show some _ = some o from ho); exact ⟨rfl, fun _ _ => OpH.alloc ty28 fun b => ⟨b, rfl, rfl⟩⟩, (fun p hp => by cases hp)⟩)⟩) ?_
      refine ⟨_, fun H => OpP.ldW ty32 (.t rfl) (Hole.app (.s (.s .z))) rfl, ?_⟩
      refine ⟨_, fun H => OpP.ldW ty28 (.t rfl) (Hole.app (.s .z)) rfl, ?_⟩
      refine ⟨_, fun H => OpP.move (.t rfl) rfl, ?_⟩
      refine ⟨_, fun H => OpP.move (.t rfl) rfl, ?_⟩
      refine ⟨_, fun H => OpP.idx ty23 Tryd.underlying36 (.t rfl) (.t rfl) (by first | omega | (simp; done) | (simp; omega) | (simp at *; omega)) (by first | omega | (simp; done) | (simp; omega) | (simp at *; omega)) rfl, ?_⟩
      refine ⟨_, fun H => OpP.ldP ty23 (.t rfl) rfl, ?_⟩
      refine ⟨_, fun H => OpP.call1 hG (algMac_c _ _ _ (by have := ha.macs; omega)) (.cons (.t rfl) (.cons (.t rfl) (.cons (.t rfl) .nil))) rfl, ?_⟩
      refine ⟨_, fun H => OpP.move (.t rfl) rfl, ?_⟩
      refine ⟨_, fun H => OpP.ext3_0 (.t rfl) rfl, ?_⟩
      refine ⟨_, fun H => OpP.ext3_1 (.t rfl) rfl, ?_⟩
      refine ⟨_, fun H => OpP.ext3_2 (.t rfl) rfl, ?_⟩
      refine .inl ?_
      refine .inl ?_
      refine .inl ?_
      refine .inl ?_
      refine ⟨_, fun H => OpP.assign (.t rfl) rfl, ?_⟩
      refine ⟨rfl, fun ws13 => ?_⟩
      refine ⟨⟨([_, _], fun k => List.getD [(true, .none_), (true, .none_), (true, .none_), (true, .none_)] k (true, .none_)), rfl⟩, ?_⟩
      refine OpH.stW ty32 (.t rfl) (.t rfl) .z ?_
      refine ⟨⟨([_, _], fun k => List.getD [(true, .none_), (true, .none_), (true, .none_), (true, .none_)] k (true, .none_)), rfl⟩, ?_⟩
      refine OpH.stW ty28 (.t rfl) (.t rfl) (.s .z) ?_
      refine ⟨⟨([_, _], fun k => List.getD [(true, .none_), (true, .none_), (true, .none_), (true, .none_)] k (true, .none_)), rfl⟩, ?_⟩
      show wpB _ _ _ _ _ _ ((15, _) :: (14, _) :: (13, _) :: (69, _) :: (68, _) :: (67, _) :: (59, _) :: (66, _) :: (65, _) :: (64, _) :: (63, _) :: (62, _) :: (61, _) :: (60, _) :: _) _
      refine .nil ?_
      refine .seq ?_
      refine .drawA [false, false, false, false, false, false] [(11, (⟨G_api_Algebra, inferInstance, default⟩ : AT)), (12, (⟨(Arr 32 UInt8), inferInstance, default⟩ : AT))] (by kernel_rfl) 16 [[], [], [], [], [(73, 2), (74, 3)], [(75, 4)], [(71, 0), (72, 1), (76, 5)], [(77, 6)], [(70, 7)], [(70, 7)], [(70, 7)], [], [], [(16, 11), (78, 8)], [(17, 12), (79, 9)], [(80, 10)]] [13, 14] rfl (by kernel_rfl) rfl (by kernel_rfl) (by decide) (by simp) (List.forall_mem_cons.2 ⟨fun o ho => by obtain rfl := Option.some.inj (show some _ = some o from ho); exact ⟨rfl, fun _ _ => OpH.alloc ty32 fun b => ⟨b, rfl, rfl⟩⟩, (List.forall_mem_cons.2 ⟨fun o ho => by obtain rfl := Option.some.inj (show some _ = some o from ho); exact ⟨rfl, fun _ _ => OpH.alloc ty28 fun b => ⟨b, rfl, rfl⟩⟩, (fun p hp => by cases hp)⟩)⟩) ?_
      refine ⟨_, fun H => OpP.ldW ty32 (.t rfl) (Hole.app (.s (.s (.s (.s .z))))) rfl, ?_⟩
      refine ⟨_, fun H => OpP.ldW ty28 (.t rfl) (Hole.app (.s (.s (.s .z)))) rfl, ?_⟩
      refine ⟨_, fun H => OpP.move (.t rfl) rfl, ?_⟩
      refine ⟨_, fun H => OpP.move (.t rfl) rfl, ?_⟩
      refine ⟨_, fun H => OpP.idx ty23 Tryd.underlying36 (.t rfl) (.t rfl) (by first | omega | (simp; done) | (simp; omega) | (simp at *; omega)) (by first | omega | (simp; done) | (simp; omega) | (simp at *; omega)) rfl, ?_⟩
      refine ⟨_, fun H => OpP.ldP ty23 (.t rfl) rfl, ?_⟩
      refine ⟨_, fun H => OpP.call1 hG (rMac_c _ _ _) (.cons (.t rfl) (.cons (.t rfl) (.cons (.t rfl) .nil))) rfl, ?_⟩
      refine ⟨_, fun H => OpP.move (.t rfl) rfl, ?_⟩
      refine ⟨_, fun H => OpP.ext3_0 (.t rfl) rfl, ?_⟩
      refine ⟨_, fun H => OpP.ext3_1 (.t rfl) rfl, ?_⟩
      refine ⟨_, fun H => OpP.ext3_2 (.t rfl) rfl, ?_⟩
      refine .inl ?_
      refine .inl ?_
      refine .inl ?_
      refine .inl ?_
      refine ⟨_, fun H => OpP.assign (.t rfl) rfl, ?_⟩
      refine ⟨rfl, fun ws14 => ?_⟩
      refine ⟨⟨([_, _], fun k => List.getD [(true, .none_), (true, .none_), (true, .none_), (true, .none_), (true, .none_), (true, .none_)] k (true, .none_)), rfl⟩, ?_⟩
      refine OpH.stW ty32 (.t rfl) (.t rfl) .z ?_
      refine ⟨⟨([_, _], fun k => List.getD [(true, .none_), (true, .none_), (true, .none_), (true, .none_), (true, .none_), (true, .none_)] k (true, .none_)), rfl⟩, ?_⟩
      refine OpH.stW ty28 (.t rfl) (.t rfl) (.s .z) ?_
      refine ⟨⟨([_, _], fun k => List.getD [(true, .none_), (true, .none_), (true, .none_), (true, .none_), (true, .none_), (true, .none_)] k (true, .none_)), rfl⟩, ?_⟩
      show wpB _ _ _ _ _ _ ((18, _) :: (17, _) :: (16, _) :: (80, _) :: (79, _) :: (78, _) :: (70, _) :: (77, _) :: (76, _) :: (75, _) :: (74, _) :: (73, _) :: (72, _) :: (71, _) :: _) _
      refine .nil ?_
      refine .seq ?_
      refine .region rfl ?_
      refine .p (.ldW ty32 (.t rfl) (.s (.s .z)) (.p (.ldW ty32 (.t rfl) .z (.p (.call1 hG (sameAlg_c _) (.cons (.t rfl) (.cons (.t rfl) .nil)) (.p (.not (.t rfl) (.p (.move (.t rfl) ?_)))))))))
      refine .gk 85 rfl (.t rfl) (by simp) (.ofP (.ldW ty28 (.t rfl) (.s (.s (.s .z))) ?_))
      refine .gk 85 rfl (.t rfl) (by simp) (.ofP (.ldW ty28 (.t rfl) (.s .z) ?_))
      refine .gk 85 rfl (.t rfl) (by simp) (.ofP (.neqA8 Tryd.underlying28 sz5 Tryd.underlying5 gd28 (.t rfl) (.t rfl) ?_))
      refine .p (.pickOr (.t rfl) (fun hp => (.t rfl)) (.p (.move (.t rfl) ?_)))
      refine .gk 90 rfl (.t rfl) (by simp) (.ofP (.move (.t rfl) ?_))
      refine .gk 90 rfl (.t rfl) (by simp) (.ofP (.move (.t rfl) ?_))
      refine .gk 90 rfl (.t rfl) (by simp) (.ofP (.neqI (.t rfl) (.t rfl) ?_))
      refine .p (.pickOr (.t rfl) (fun hp => (.t rfl)) ?_)
      refine .nil ?_
      refine .cond (.t rfl) (fun hc94 => ?_) (fun hc94 => ?_)
      · refine .seq ?_
        refine .region rfl ?_
        refine .p (.assign .b ?_)
        refine .nil ?_
        refine .ret ?_
        refine ⟨_, .r1 rfl (.tmp rfl), ?_⟩
        exfalso; simp at hc94
      · refine .skip ?_
        refine .drop ?_
        refine .drop ?_
        refine .drop ?_
        refine .drop ?_
        refine .region rfl ?_
        refine .p (.move (.t rfl) (.p (.add (.t rfl) (.i rfl) (by first | omega | (simp; done) | (simp; omega) | (simp at *; omega)) (by first | omega | (simp; done) | (simp; omega) | (simp at *; omega)) (.p (.assign (.t rfl) ?_)))))
        refine .nil ?_
        refine ⟨j + 1, .cons rfl (.cons rfl (.cons rfl (.cons rfl (.nil _)))), rfl, ?_, by omega⟩
        omega
    · refine .exit ?_
      refine .seq ?_
      refine .region rfl ?_
      refine .p (.call1 hG (awake10_c) .nil (.p (.assign (.t rfl) ?_)))
      refine .nil ?_
      refine .ret ?_
      refine ⟨_, .r1 rfl (.tmp rfl), ?_⟩
      simp
theorem AlgebraLook_c (deck : List Int) (m : List UInt8) (n : UInt8) : FunA gl Tryd.prog 4 [.v deck, .v m, .v n] (fun r => r = .v true) := by
  refine FunA.intro Tryd.func4 rfl (by kernel_rfl) 86 rfl rfl _ rfl fun C hC hG => ?_
  refine .seq ?_
  refine .region rfl ?_
  refine .p (.assign .b ?_)
  refine .nil ?_
  refine .seq ?_
  refine .region rfl ?_
  refine .p (.move (.t rfl) (.p (.call hG (short10_c _) (.cons (.t rfl) .nil) fun r18 hr18 => ?_)))
  obtain ⟨m, hm, rfl⟩ := hr18
  refine .p (.assign (.t rfl) ?_)
  refine .nil ?_
  refine .seq ?_
  refine .region rfl ?_
  refine .p (.move (.t rfl) (.h (.call0 hG (deckNew_c _) (.cons (.t rfl) .nil) fun r20 Hs20 hr20 => ?_)))
  obtain ⟨b20, rfl, rfl⟩ := hr20
  show wpB _ _ _ _ _ _ _ ((true, _) :: _)
  have hd : DeckOk (⟨deck, 0⟩ : G_macaroonmade_Deck) := Int.le_refl 0
  refine .p (.assign (.t rfl) ?_)
  refine .nil ?_
  refine .seq ?_
  refine .region rfl ?_
  refine .p (.move (.t rfl) (.h (.callM hG (Algebra_deck_c _ _ (by assumption)) .z (.cons (.t rfl) .nil) (by rintro _ _ ⟨_, _, _, _, _, rfl⟩; exact ⟨_, rfl⟩) fun r22 B22 hr22 => ?_)))
  obtain ⟨a, d22, ha, hd22, rfl, hB⟩ := hr22
  cases hB
  refine .h (.alloc ty32 fun b8 => .n (.stW ty32 (.t rfl) (.t rfl) .z ?_))
  refine .nil ?_
  refine .seq ?_
  refine .region rfl ?_
  refine .p (.move (.t rfl) (.p (.ldW ty32 (.t rfl) .z (.h (.callM hG (Known_deck_c _ _ _ (by assumption) (by have := ha.macs; omega) (by have := ha.boxes; omega)) (.s .z) (.cons (.t rfl) (.cons (.t rfl) .nil)) (by rintro _ _ ⟨_, _, _, _, rfl⟩; exact ⟨_, rfl⟩) fun r25 B25 hr25 => ?_)))))
  obtain ⟨k, d25, hd25, rfl, hB⟩ := hr25
  cases hB
  refine .h (.alloc ty28 fun b9 => .n (.stW ty28 (.t rfl) (.t rfl) .z ?_))
  refine .nil ?_
  refine .seq ?_
  refine .drawCF [false, false, true] (by kernel_rfl) 10 [[], [], [(27, 1)], [(28, 2)], [(29, 3)], [(30, 4)], [], [(32, 6)], [(26, 0), (31, 5), (33, 7)], [(34, 8)]] [7, 8, 9] rfl (by kernel_rfl) rfl (by kernel_rfl) (by decide) ?_
  refine ⟨_, fun H => OpP.move (.t rfl) rfl, ?_⟩
  refine ⟨_, fun H => OpP.move (.t rfl) rfl, ?_⟩
  refine ⟨_, fun H => OpP.convI8 Tryd.underlying5 Tryd.underlying3 (.t rfl) rfl, ?_⟩
  refine ⟨_, fun H => OpP.rem (.t rfl) (.i rfl) (by first | omega | (simp; done) | (simp; omega) | (simp at *; omega)) (by first | omega | (simp; done) | (simp; omega) | (simp at *; omega)) rfl, ?_⟩
  refine ⟨_, fun H => OpP.add (.i rfl) (.t rfl) (by first | omega | (simp; done) | (simp; omega) | (simp at *; omega)) (by first | omega | (simp; done) | (simp; omega) | (simp at *; omega)) rfl, ?_⟩
  refine ⟨_, fun H => OpP.makeF st23 (.t rfl) (by first | omega | (simp; done) | (simp; omega) | (simp at *; omega)) (by first | omega | (simp; done) | (simp; omega) | (simp at *; omega)) (by first | omega | (simp; done) | (simp; omega) | (simp at *; omega)) rfl, ?_⟩
  refine ⟨_, fun H => OpP.move (.t rfl) rfl, ?_⟩
  refine .inl ?_
  refine .inl ?_
  refine .inl ?_
  refine ⟨⟨([], fun k => List.getD [(true, .none_), (true, .none_), _] k (true, .none_)), rfl⟩, ?_⟩
  refine OpH.callM hG (Bytes_deck_c _ _ _ (by assumption) (by first | omega | (simp; done) | (simp; omega) | (simp at *; omega)) (by first | omega | (simp; done) | (simp; omega) | (simp at *; omega))) (.s (.s .z)) (.cons (.t rfl) (.cons (.i rfl) .nil)) (by rintro _ _ ⟨_, _, _, _, _, rfl⟩; exact ⟨_, rfl⟩) fun r33 B33 hr33 => ?_
  obtain ⟨l33, hl33, d33, hd33, rfl, hB⟩ := hr33
  cases hB
  refine ⟨⟨([], fun k => List.getD [(true, .none_), (true, .none_), _] k (true, .none_)), rfl⟩, ?_⟩
  refine OpH.buildSlice (α := (List UInt8)) ty23 Tryd.underlying36 (.cons (.t rfl) (.cons .nilS (.cons (.c rfl) (.cons (.t rfl) .nil)))) rfl (by decide) fun b34 => ?_
  refine ⟨⟨([_], fun k => List.getD [(true, .none_), (true, .none_), _] k (true, .none_)), rfl⟩, ?_⟩
  refine OpH.ofP (OpP.assign (.t rfl) ?_)
  refine ⟨⟨([_], fun k => List.getD [(true, .none_), (true, .none_), _] k (true, .none_)), rfl⟩, ?_⟩
  show wpB _ _ _ _ _ _ ((10, _) :: (34, _) :: (33, _) :: (32, _) :: (31, _) :: (30, _) :: (29, _) :: (28, _) :: (27, _) :: (26, _) :: _) _
  refine .nil ?_
  refine .seq ?_
  refine .seq ?_
  refine .forget (.s (.s (.s .z))) ?_
  refine .region rfl ?_
  refine .p (.assign (.i rfl) ?_)
  refine .nil ?_
  refine .block ?_
  refine .loopR (α := Nat × Value × List (List UInt8)) [(8, _), (9, _)] (fun x R => (10, .raw x.2.1) :: (11, .v (x.1 : Int)) :: R) (fun x => [(true, .own 23 x.2.1 x.2.2), (true, .ob (ptr b9 0) k), (true, .ob (ptr b8 0) a), (true, .none_)]) (fun x => x.1 ≤ a.Macs.length ∧ x.2.2.length ≤ 4 + x.1) (fun x => a.Macs.length - x.1) ((0, _, _)) (.cons rfl (.cons rfl (.nil _))) ?_ (.cons rfl (.cons rfl (.cons rfl (.cons rfl (.nil _))))) (rfl) fun x hF => ?_
  · exact ⟨Nat.zero_le _, by simp⟩
  obtain ⟨i, w, ls⟩ := x
  obtain ⟨h1, h2⟩ := hF
  dsimp only at h1 h2 ⊢
  have h3 := ha.macs
  refine .seq ?_
  refine .seq ?_
  refine .region rfl ?_
  refine .p (.move (.t rfl) (.p (.fldW G_api_Algebra.l3 fd32_3 rfl (.t rfl) (.p (.ldF (fun x => x.Macs) ty29 (.t rfl) (.s (.s .z)) (fun _ => rfl) (.p (.len Tryd.underlying29 (.t rfl) (.p (.lss (.t rfl) (.t rfl) ?_)))))))))
  refine .nil ?_
  refine .condP (.t rfl) (fun hc39 => ?_) (fun hc39 => ?_)
  · refine .skip ?_
    refine .seq ?_
    refine .block ?_
    refine .region rfl ?_
    refine .p (.move (.t rfl) (.p (.fldW G_api_Algebra.l3 fd32_3 rfl (.t rfl) (.p (.ldF (fun x => x.Macs) ty29 (.t rfl) (.s (.s .z)) (fun _ => rfl) (.p (.move (.t rfl) (.p (.idx ty38 Tryd.underlying29 (.t rfl) (.t rfl) (by first | omega | (simp; done) | (simp; omega) | (simp at *; omega)) (by first | omega | (simp; done) | (simp; omega) | (simp at *; omega)) (.p (.fldPF G_api_Mac.l1 (fun x => x.Message) fd38_1 rfl (fun _ => rfl) (.t rfl) ?_)))))))))))
    refine .p (.ldP ty23 (.t rfl) (.h (.buildSlice (α := (List UInt8)) ty23 Tryd.underlying36 (.cons (.t rfl) .nil) rfl (by decide) fun b49 => .h (.append st36 (.inl ⟨_, Tryd.underlying36⟩) rfl (.s .z) (.own rfl .z) (by first | omega | (simp; done) | (simp; omega) | (simp at *; omega)) (by first | omega | (simp; done) | (simp; omega) | (simp at *; omega)) (fun w50 => .p (.assign (.t rfl) ?_)) rfl))))
    refine .drop ?_
    refine .nil ?_
    refine .region rfl ?_
    refine .p (.move (.t rfl) (.p (.add (.t rfl) (.i rfl) (by first | omega | (simp; done) | (simp; omega) | (simp at *; omega)) (by first | omega | (simp; done) | (simp; omega) | (simp at *; omega)) (.p (.assign (.t rfl) ?_)))))
    refine .nil ?_
    refine ⟨(i + 1, _, _), .cons rfl (.cons rfl (.cons rfl (.cons rfl (.nil _)))), rfl, ?_, by dsimp only; omega⟩
    exact ⟨by dsimp only; omega, by simp; omega⟩
  · refine .exit ?_
    refine .seq ?_
    refine .seq ?_
    refine .frzOwn hC .z ?_
    refine .as 10 rfl .z ?_
    refine .region rfl ?_
    refine .p (.assign (.i rfl) ?_)
    refine .nil ?_
    refine .block ?_
    refine .loopR (α := Nat) [(8, _), (9, _), (10, _)] (fun j R => (12, .v (j : Int)) :: R) (fun j => [(true, .fz w (.v ls)), (true, .ob (ptr b9 0) k), (true, .ob (ptr b8 0) a), (true, .none_)]) (fun j => j ≤ ls.length) (fun j => ls.length - j) (0) (.cons rfl (.cons rfl (.cons rfl (.nil _)))) ?_ (.cons rfl (.cons rfl (.cons rfl (.cons rfl (.nil _))))) (rfl) fun j hF => ?_
    · simp
    refine .seq ?_
    refine .seq ?_
    refine .region rfl ?_
    refine .p (.move (.t rfl) (.p (.move (.t rfl) (.p (.len Tryd.underlying36 (.t rfl) (.p (.lss (.t rfl) (.t rfl) ?_)))))))
    refine .nil ?_
    refine .condP (.t rfl) (fun hc54 => ?_) (fun hc54 => ?_)
    · refine .skip ?_
      refine .seq ?_
      refine .block ?_
      refine .seq ?_
      refine .drawCF [false, false, false, false] (by kernel_rfl) 13 [[], [], [], [], [(60, 2), (61, 3)], [(62, 4)], [(58, 0), (59, 1), (63, 5)], [(64, 6)], [(57, 7)], [(57, 7)], [], [(13, 10), (65, 8)], [(66, 9)]] [10, 11] rfl (by kernel_rfl) rfl (by kernel_rfl) (by decide) ?_
      refine ⟨_, fun H => OpP.ldW ty32 (.t rfl) (Hole.app (.s (.s .z))) rfl, ?_⟩
      refine ⟨_, fun H => OpP.ldW ty28 (.t rfl) (Hole.app (.s .z)) rfl, ?_⟩
      refine ⟨_, fun H => OpP.move (.t rfl) rfl, ?_⟩
      refine ⟨_, fun H => OpP.move (.t rfl) rfl, ?_⟩
      refine ⟨_, fun H => OpP.idx ty23 Tryd.underlying36 (.t rfl) (.t rfl) (by first | omega | (simp; done) | (simp; omega) | (simp at *; omega)) (by first | omega | (simp; done) | (simp; omega) | (simp at *; omega)) rfl, ?_⟩
      refine ⟨_, fun H => OpP.ldP ty23 (.t rfl) rfl, ?_⟩
      refine ⟨_, fun H => OpP.call1 hG (algLook_c _ _ _) (.cons (.t rfl) (.cons (.t rfl) (.cons (.t rfl) .nil))) rfl, ?_⟩
      refine ⟨_, fun H => OpP.move (.t rfl) rfl, ?_⟩
      refine ⟨_, fun H => OpP.ext2_0 (.t rfl) rfl, ?_⟩
      refine ⟨_, fun H => OpP.ext2_1 (.t rfl) rfl, ?_⟩
      refine .inl ?_
      refine .inl ?_
      refine ⟨_, fun H => OpP.assign (.t rfl) rfl, ?_⟩
      refine ⟨⟨([], fun k => List.getD [(true, .none_), (true, .none_), (true, .none_), (true, .none_)] k (true, .none_)), rfl⟩, ?_⟩
      refine OpH.alloc ty28 fun b13 => ?_
      refine ⟨⟨([_], fun k => List.getD [(true, .none_), (true, .none_), (true, .none_), (true, .none_)] k (true, .none_)), rfl⟩, ?_⟩
      refine OpH.stW ty28 (.t rfl) (.t rfl) .z ?_
      refine ⟨⟨([_], fun k => List.getD [(true, .none_), (true, .none_), (true, .none_), (true, .none_)] k (true, .none_)), rfl⟩, ?_⟩
      show wpB _ _ _ _ _ _ ((14, _) :: (13, _) :: (66, _) :: (65, _) :: (57, _) :: (64, _) :: (63, _) :: (62, _) :: (61, _) :: (60, _) :: (59, _) :: (58, _) :: _) _
      refine .nil ?_
      refine .seq ?_
      refine .drawCF [false, false, false, false, false] (by kernel_rfl) 13 [[], [], [], [], [(70, 2), (71, 3)], [(72, 4)], [(68, 0), (69, 1), (73, 5)], [(74, 6)], [(67, 7)], [(67, 7)], [], [(15, 10), (75, 8)], [(76, 9)]] [10, 11] rfl (by kernel_rfl) rfl (by kernel_rfl) (by decide) ?_
      refine ⟨_, fun H => OpP.ldW ty32 (.t rfl) (Hole.app (.s (.s (.s .z)))) rfl, ?_⟩
      refine ⟨_, fun H => OpP.ldW ty28 (.t rfl) (Hole.app (.s (.s .z))) rfl, ?_⟩
      refine ⟨_, fun H => OpP.move (.t rfl) rfl, ?_⟩
      refine ⟨_, fun H => OpP.move (.t rfl) rfl, ?_⟩
      refine ⟨_, fun H => OpP.idx ty23 Tryd.underlying36 (.t rfl) (.t rfl) (by first | omega | (simp; done) | (simp; omega) | (simp at *; omega)) (by first | omega | (simp; done) | (simp; omega) | (simp at *; omega)) rfl, ?_⟩
      refine ⟨_, fun H => OpP.ldP ty23 (.t rfl) rfl, ?_⟩
      refine ⟨_, fun H => OpP.call1 hG (rLook_c _ _ _) (.cons (.t rfl) (.cons (.t rfl) (.cons (.t rfl) .nil))) rfl, ?_⟩
      refine ⟨_, fun H => OpP.move (.t rfl) rfl, ?_⟩
      refine ⟨_, fun H => OpP.ext2_0 (.t rfl) rfl, ?_⟩
      refine ⟨_, fun H => OpP.ext2_1 (.t rfl) rfl, ?_⟩
      refine .inl ?_
      refine .inl ?_
      refine ⟨_, fun H => OpP.assign (.t rfl) rfl, ?_⟩
      refine ⟨⟨([], fun k => List.getD [(true, .none_), (true, .none_), (true, .none_), (true, .none_), (true, .none_)] k (true, .none_)), rfl⟩, ?_⟩
      refine OpH.alloc ty28 fun b15 => ?_
      refine ⟨⟨([_], fun k => List.getD [(true, .none_), (true, .none_), (true, .none_), (true, .none_), (true, .none_)] k (true, .none_)), rfl⟩, ?_⟩
      refine OpH.stW ty28 (.t rfl) (.t rfl) .z ?_
      refine ⟨⟨([_], fun k => List.getD [(true, .none_), (true, .none_), (true, .none_), (true, .none_), (true, .none_)] k (true, .none_)), rfl⟩, ?_⟩
      show wpB _ _ _ _ _ _ ((16, _) :: (15, _) :: (76, _) :: (75, _) :: (67, _) :: (74, _) :: (73, _) :: (72, _) :: (71, _) :: (70, _) :: (69, _) :: (68, _) :: _) _
      refine .nil ?_
      refine .seq ?_
      refine .region rfl ?_
      refine .p (.ldW ty28 (.t rfl) (.s .z) (.p (.ldW ty28 (.t rfl) .z (.p (.neqA8 Tryd.underlying28 sz5 Tryd.underlying5 gd28 (.t rfl) (.t rfl) (.p (.move (.t rfl) ?_)))))))
      refine .gk 80 rfl (.t rfl) (by simp) (.ofP (.move (.t rfl) ?_))
      refine .gk 80 rfl (.t rfl) (by simp) (.ofP (.move (.t rfl) ?_))
      refine .gk 80 rfl (.t rfl) (by simp) (.ofP (.neqBl Tryd.underlying4 (.t rfl) (.t rfl) ?_))
      refine .p (.pickOr (.t rfl) (fun hp => (.t rfl)) ?_)
      refine .nil ?_
      refine .cond (.t rfl) (fun hc84 => ?_) (fun hc84 => ?_)
      · refine .seq ?_
        refine .region rfl ?_
        refine .p (.assign .b ?_)
        refine .nil ?_
        refine .ret ?_
        refine ⟨_, .r1 rfl (.tmp rfl), ?_⟩
        exfalso; simp at hc84
      · refine .skip ?_
        refine .drop ?_
        refine .drop ?_
        refine .region rfl ?_
        refine .p (.move (.t rfl) (.p (.add (.t rfl) (.i rfl) (by first | omega | (simp; done) | (simp; omega) | (simp at *; omega)) (by first | omega | (simp; done) | (simp; omega) | (simp at *; omega)) (.p (.assign (.t rfl) ?_)))))
        refine .nil ?_
        refine ⟨j + 1, .cons rfl (.cons rfl (.cons rfl (.cons rfl (.nil _)))), rfl, ?_, by omega⟩
        omega
    · refine .exit ?_
      refine .seq ?_
      refine .region rfl ?_
      refine .p (.call1 hG (awake10_c) .nil (.p (.assign (.t rfl) ?_)))
      refine .nil ?_
      refine .ret ?_
      refine ⟨_, .r1 rfl (.tmp rfl), ?_⟩
      simp
theorem AlgebraFound_c (deck : List Int) (m : List UInt8) : FunA gl Tryd.prog 5 [.v deck, .v m] (fun r => r = .v true) := by
  refine FunA.intro Tryd.func5 rfl (by kernel_rfl) 118 rfl rfl _ rfl fun C hC hG => ?_
  refine .seq ?_
  refine .region rfl ?_
  refine .p (.assign .b ?_)
  refine .nil ?_
  refine .seq ?_
  refine .region rfl ?_
  refine .p (.move (.t rfl) (.p (.call hG (short10_c _) (.cons (.t rfl) .nil) fun r21 hr21 => ?_)))
  obtain ⟨m, hm, rfl⟩ := hr21
  refine .p (.assign (.t rfl) ?_)
  refine .nil ?_
  refine .seq ?_
  refine .region rfl ?_
  refine .p (.move (.t rfl) (.h (.call0 hG (deckNew_c _) (.cons (.t rfl) .nil) fun r23 Hs23 hr23 => ?_)))
  obtain ⟨b23, rfl, rfl⟩ := hr23
  show wpB _ _ _ _ _ _ _ ((true, _) :: _)
  have hd : DeckOk (⟨deck, 0⟩ : G_macaroonmade_Deck) := Int.le_refl 0
  refine .p (.assign (.t rfl) ?_)
  refine .nil ?_
  refine .seq ?_
  refine .region rfl ?_
  refine .p (.move (.t rfl) (.h (.callM hG (Algebra_deck_c _ _ (by assumption)) .z (.cons (.t rfl) .nil) (by rintro _ _ ⟨_, _, _, _, _, rfl⟩; exact ⟨_, rfl⟩) fun r25 B25 hr25 => ?_)))
  obtain ⟨a, d25, ha, hd25, rfl, hB⟩ := hr25
  cases hB
  refine .h (.alloc ty32 fun b6 => .n (.stW ty32 (.t rfl) (.t rfl) .z ?_))
  refine .nil ?_
  refine .seq ?_
  refine .region rfl ?_
  refine .p (.move (.t rfl) (.p (.ldW ty32 (.t rfl) .z (.h (.callM hG (Known_deck_c _ _ _ (by assumption) (by have := ha.macs; omega) (by have := ha.boxes; omega)) (.s .z) (.cons (.t rfl) (.cons (.t rfl) .nil)) (by rintro _ _ ⟨_, _, _, _, rfl⟩; exact ⟨_, rfl⟩) fun r28 B28 hr28 => ?_)))))
  obtain ⟨k, d28, hd28, rfl, hB⟩ := hr28
  cases hB
  refine .h (.alloc ty28 fun b7 => .n (.stW ty28 (.t rfl) (.t rfl) .z ?_))
  refine .nil ?_
  refine .seq ?_
  refine .region rfl ?_
  refine .p (.ldW ty32 (.t rfl) (.s .z) (.p (.ldW ty28 (.t rfl) .z (.p (.move (.t rfl) (.p (.call hG (made_c ha (by omega) _ _ (by first | omega | (simp; done) | (simp; omega) | (simp at *; omega))) (.cons (.t rfl) (.cons (.t rfl) (.cons (.t rfl) .nil))) fun r33 hr33 => ?_)))))))
  obtain ⟨b, t, rfl, hb⟩ := hr33
  refine .p (.move (.t rfl) (.p (.ext3_0 (.t rfl) (.p (.ext3_1 (.t rfl) (.p (.ext3_2 (.t rfl) (.h (.alloc ty32 fun b8 => .h (.alloc ty28 fun b9 => ?_))))))))))
  refine .n (.stW ty32 (.t rfl) (.t rfl) (.s .z) (.n (.stW ty28 (.t rfl) (.t rfl) .z (.p (.assign (.t rfl) ?_)))))
  refine .nil ?_
  refine .seq ?_
  refine .region rfl ?_
  refine .p (.ldW ty32 (.t rfl) (.s .z) (.p (.ldW ty28 (.t rfl) (.s (.s .z)) (.p (.move (.t rfl) (.p (.call1 hG (look_as hb.look) (.cons (.t rfl) (.cons (.t rfl) (.cons (.t rfl) .nil))) (.p (.move (.t rfl) (.p (.ext2_0 (.t rfl) ?_)))))))))))
  refine .p (.ext2_1 (.t rfl) (.h (.alloc ty28 fun b11 => .n (.stW ty28 (.t rfl) (.t rfl) .z (.p (.assign (.t rfl) ?_))))))
  refine .nil ?_
  refine .seq ?_
  refine .region rfl ?_
  refine .p (.ldW ty32 (.t rfl) (.s (.s .z)) (.p (.ldW ty28 (.t rfl) (.s (.s (.s .z))) (.p (.move (.t rfl) (.p (.call1 hG (mac_as (by have := hb.ok.macs; omega) hb.again) (.cons (.t rfl) (.cons (.t rfl) (.cons (.t rfl) .nil))) (.p (.move (.t rfl) (.p (.ext3_0 (.t rfl) ?_)))))))))))
  refine .p (.ext3_1 (.t rfl) (.p (.ext3_2 (.t rfl) (.h (.alloc ty32 fun b13 => .h (.alloc ty28 fun b14 => .n (.stW ty32 (.t rfl) (.t rfl) (.s .z) (.n (.stW ty28 (.t rfl) (.t rfl) .z ?_)))))))))
  refine .p (.assign (.t rfl) ?_)
  refine .nil ?_
  refine .seq ?_
  refine .seq ?_
  have h3 := ha.macs
  refine .region rfl ?_
  refine .p (.move (.t rfl) (.p (.neqI (.t rfl) (.i rfl) (.p (.move (.t rfl) ?_)))))
  refine .go 54 rfl (.t rfl) (fun hg55 => .move (.t rfl) rfl) ?_
  refine .go 54 rfl (.t rfl) (fun hg56 => .neqI (.o rfl (beq_iff_eq.2 hg56)) (.i rfl) rfl) ?_
  refine .p (.pickOr (.t rfl) (fun hp => (.o rfl (beq_iff_eq.2 hp))) (.p (.move (.t rfl) ?_)))
  refine .go 58 rfl (.t rfl) (fun hg59 => .move (.t rfl) rfl) ?_
  refine .go 58 rfl (.t rfl) (fun hg60 => .not (.o rfl (beq_iff_eq.2 hg60)) rfl) ?_
  refine .p (.pickOr (.t rfl) (fun hp => (.o rfl (beq_iff_eq.2 hp))) (.p (.move (.t rfl) ?_)))
  refine .go 62 rfl (.t rfl) (fun hg63 => .ldW ty28 (.t rfl) (.s (.s (.s .z))) rfl) ?_
  refine .go 62 rfl (.t rfl) (fun hg64 => .ldW ty28 (.t rfl) (.s (.s .z)) rfl) ?_
  refine .go 62 rfl (.t rfl) (fun hg65 => .neqA8 Tryd.underlying28 sz5 Tryd.underlying5 gd28 (.o rfl (beq_iff_eq.2 hg65)) (.o rfl (beq_iff_eq.2 hg65)) rfl) ?_
  refine .p (.pickOr (.t rfl) (fun hp => (.o rfl (beq_iff_eq.2 hp))) (.p (.move (.t rfl) ?_)))
  refine .go 67 rfl (.t rfl) (fun hg68 => .ldW ty28 (.t rfl) (.s (.s (.s .z))) rfl) ?_
  refine .go 67 rfl (.t rfl) (fun hg69 => .ldW ty28 (.t rfl) .z rfl) ?_
  refine .go 67 rfl (.t rfl) (fun hg70 => .neqA8 Tryd.underlying28 sz5 Tryd.underlying5 gd28 (.o rfl (beq_iff_eq.2 hg70)) (.o rfl (beq_iff_eq.2 hg70)) rfl) ?_
  refine .p (.pickOr (.t rfl) (fun hp => (.o rfl (beq_iff_eq.2 hp))) (.p (.move (.t rfl) ?_)))
  refine .go 72 rfl (.t rfl) (fun hg73 => .ldW ty32 (.t rfl) (.s (.s (.s (.s .z)))) rfl) ?_
  refine .go 72 rfl (.t rfl) (fun hg74 => .ldW ty32 (.t rfl) (.s .z) rfl) ?_
  refine .go 72 rfl (.t rfl) (fun hg75 => .call1 hG (sameAlg_c _) (.cons (.o rfl (beq_iff_eq.2 hg75)) (.cons (.o rfl (beq_iff_eq.2 hg75)) .nil)) rfl) ?_
  refine .go 72 rfl (.t rfl) (fun hg76 => .not (.o rfl (beq_iff_eq.2 hg76)) rfl) ?_
  refine .p (.pickOr (.t rfl) (fun hp => (.o rfl (beq_iff_eq.2 hp))) (.p (.move (.t rfl) ?_)))
  refine .go 78 rfl (.t rfl) (fun hg79 => .fldW G_api_Algebra.l3 fd32_3 rfl (.t rfl) rfl) ?_
  refine .go 78 rfl (.t rfl) (fun hg80 => .ldF (fun x => x.Macs) ty29 (.o rfl (beq_iff_eq.2 hg80)) (.s (.s (.s (.s .z)))) (fun _ => rfl) rfl) ?_
  refine .go 78 rfl (.t rfl) (fun hg81 => .len Tryd.underlying29 (.o rfl (beq_iff_eq.2 hg81)) rfl) ?_
  refine .go 78 rfl (.t rfl) (fun hg82 => .fldW G_api_Algebra.l3 fd32_3 rfl (.t rfl) rfl) ?_
  refine .go 78 rfl (.t rfl) (fun hg83 => .ldF (fun x => x.Macs) ty29 (.o rfl (beq_iff_eq.2 hg83)) (.s (.s (.s (.s (.s (.s .z)))))) (fun _ => rfl) rfl) ?_
  refine .go 78 rfl (.t rfl) (fun hg84 => .len Tryd.underlying29 (.o rfl (beq_iff_eq.2 hg84)) rfl) ?_
  refine .go 78 rfl (.t rfl) (fun hg85 => .add (.o rfl (beq_iff_eq.2 hg85)) (.i rfl) (by first | omega | (simp; omega) | (have := hg85; simp at this; omega)) (by first | omega | (simp; omega) | (have := hg85; simp at this; omega)) rfl) ?_
  refine .go 78 rfl (.t rfl) (fun hg86 => .gtr (.o rfl (beq_iff_eq.2 hg86)) (.o rfl (beq_iff_eq.2 hg86)) rfl) ?_
  refine .p (.pickOr (.t rfl) (fun hp => (.o rfl (beq_iff_eq.2 hp))) ?_)
  refine .nil ?_
  refine .cond (.t rfl) (fun hc87 => ?_) (fun hc87 => ?_)
  · refine .seq ?_
    refine .region rfl ?_
    refine .p (.assign .b ?_)
    refine .nil ?_
    refine .ret ?_
    refine ⟨_, .r1 rfl (.tmp rfl), ?_⟩
    exfalso; have := hb.len; simp at hc87; omega
  · refine .skip ?_
    refine .seq ?_
    refine .seq ?_
    refine .region rfl ?_
    refine .p (.assign (.i rfl) ?_)
    refine .nil ?_
    refine .block ?_
    refine .loopR (α := Nat) [(6, _), (8, _)] (fun i R => (16, .v (i : Int)) :: R) (Function.const _ _) (fun i => i ≤ a.Macs.length) (fun i => a.Macs.length - i) (0) (.cons rfl (.cons rfl (.nil _))) ?_ (.cons rfl (.cons rfl (.cons rfl (.nil _)))) (rfl) fun i hF => ?_
    · simp
    refine .seq ?_
    refine .seq ?_
    refine .region rfl ?_
    refine .p (.move (.t rfl) (.p (.fldW G_api_Algebra.l3 fd32_3 rfl (.t rfl) (.p (.ldF (fun x => x.Macs) ty29 (.t rfl) (.s (.s (.s (.s (.s (.s .z)))))) (fun _ => rfl) (.p (.len Tryd.underlying29 (.t rfl) (.p (.lss (.t rfl) (.t rfl) ?_)))))))))
    refine .nil ?_
    refine .condP (.t rfl) (fun hc92 => ?_) (fun hc92 => ?_)
    · refine .skip ?_
      refine .seq ?_
      refine .block ?_
      refine .seq ?_
      refine .region rfl ?_
      refine .p (.fldW G_api_Algebra.l3 fd32_3 rfl (.t rfl) (.p (.ldF (fun x => x.Macs) ty29 (.t rfl) (.s (.s (.s (.s (.s (.s .z)))))) (fun _ => rfl) (.p (.move (.t rfl) (.p (.idx ty38 Tryd.underlying29 (.t rfl) (.t rfl) (by first | omega | (simp; done) | (simp; omega) | (simp at *; omega)) (by first | omega | (simp; done) | (simp; omega) | (simp at *; omega)) (.p (.ldP ty38 (.t rfl) (.h (.alloc ty38 fun b17 => ?_)))))))))))
      refine .n (.stW ty38 (.t rfl) (.t rfl) .z ?_)
      refine .nil ?_
      refine .seq ?_
      refine .region rfl ?_
      refine .p (.ldW ty32 (.t rfl) (.s (.s (.s (.s (.s .z))))) (.p (.fldW G_api_Mac.l0 fd38_0 rfl (.t rfl) (.p (.ldF (fun x => x.Key) ty28 (.t rfl) .z (fun _ => rfl) (.p (.fldW G_api_Mac.l1 fd38_1 rfl (.t rfl) (.p (.ldF (fun x => x.Message) ty23 (.t rfl) .z (fun _ => rfl) (.p (.call1 hG (look_as (hb.old _ _)) (.cons (.t rfl) (.cons (.t rfl) (.cons (.t rfl) .nil))) ?_)))))))))))
      refine .p (.move (.t rfl) (.p (.ext2_0 (.t rfl) (.p (.ext2_1 (.t rfl) (.h (.alloc ty28 fun b18 => .n (.stW ty28 (.t rfl) (.t rfl) .z (.p (.assign (.t rfl) ?_))))))))))
      refine .nil ?_
      refine .seq ?_
      refine .region rfl ?_
      refine .p (.move (.t rfl) (.p (.not (.t rfl) (.p (.move (.t rfl) ?_)))))
      refine .go 111 rfl (.t rfl) (fun hg112 => .ldW ty28 (.t rfl) .z rfl) ?_
      refine .go 111 rfl (.t rfl) (fun hg113 => .fldW G_api_Mac.l2 fd38_2 rfl (.t rfl) rfl) ?_
      refine .go 111 rfl (.t rfl) (fun hg114 => .ldF (fun x => x.Tag) ty28 (.o rfl (beq_iff_eq.2 hg114)) (.s .z) (fun _ => rfl) rfl) ?_
      refine .go 111 rfl (.t rfl) (fun hg115 => .neqA8 Tryd.underlying28 sz5 Tryd.underlying5 gd28 (.o rfl (beq_iff_eq.2 hg115)) (.o rfl (beq_iff_eq.2 hg115)) rfl) ?_
      refine .p (.pickOr (.t rfl) (fun hp => (.o rfl (beq_iff_eq.2 hp))) ?_)
      refine .nil ?_
      refine .cond (.t rfl) (fun hc116 => ?_) (fun hc116 => ?_)
      · refine .seq ?_
        refine .region rfl ?_
        refine .p (.assign .b ?_)
        refine .nil ?_
        refine .ret ?_
        refine ⟨_, .r1 rfl (.tmp rfl), ?_⟩
        exfalso; simp at hc116
      · refine .skip ?_
        refine .drop ?_
        refine .drop ?_
        refine .region rfl ?_
        refine .p (.move (.t rfl) (.p (.add (.t rfl) (.i rfl) (by first | omega | (simp; done) | (simp; omega) | (simp at *; omega)) (by first | omega | (simp; done) | (simp; omega) | (simp at *; omega)) (.p (.assign (.t rfl) ?_)))))
        refine .nil ?_
        refine ⟨i + 1, .cons rfl (.cons rfl (.cons rfl (.nil _))), rfl, ?_, by omega⟩
        omega
    · refine .exit ?_
      refine .seq ?_
      refine .region rfl ?_
      refine .p (.call1 hG (awake10_c) .nil (.p (.assign (.t rfl) ?_)))
      refine .nil ?_
      refine .ret ?_
      refine ⟨_, .r1 rfl (.tmp rfl), ?_⟩
      simp
theorem AlgebraFree_plain (seed k j : Tag) (x y : List UInt8) (hk : k = symTag 107 1) (hx : x.length ≤ 200) (hy : y.length ≤ 200) :
    ∃ a3, algMac ⟨true, seed, 2, [], []⟩ k x = (a3, symTag 109 1, 0) ∧ ∃ a4 u, algMac a3 j y = (a4, u, 0) ∧ a3.Macs.length ≤ 10 ∧ a4.Fresh = 2 ∧ a4.Free = true ∧ ((u = symTag 109 1 ∧ k = j ∧ x = y) ∨ (u = symTag 109 2 ∧ ¬ (k = j ∧ x = y))) := by
  refine ⟨⟨true, seed, 2, [⟨k, x, symTag 109 1⟩], []⟩, by rw [algMac_new (by omega) rfl (by simp)]; rfl, ?_⟩
  by_cases h : k = j ∧ x = y
  · obtain ⟨rfl, rfl⟩ := h
    refine ⟨⟨true, seed, 2, [⟨k, x, symTag 109 1⟩], []⟩, symTag 109 1, ?_, by simp, rfl, rfl, .inl ⟨rfl, rfl, rfl⟩⟩
    unfold algMac algFind
    rw [if_neg (by omega)]
    have : List.find? (macEq k x) [(⟨k, x, symTag 109 1⟩ : G_api_Mac)] = some ⟨k, x, symTag 109 1⟩ := by simp [macEq]
    rw [this]
  · refine ⟨⟨true, seed, 2, [⟨k, x, symTag 109 1⟩, ⟨j, y, symTag 109 2⟩], []⟩, symTag 109 2, ?_, by simp, rfl, rfl, .inr ⟨rfl, h⟩⟩
    have hf : algFind ⟨true, seed, 2, [⟨k, x, symTag 109 1⟩], []⟩ j y = none := by
      unfold algFind
      simp only [List.find?_cons, List.find?_nil]
      have : macEq j y ⟨k, x, symTag 109 1⟩ = false := by
        cases hb : macEq j y ⟨k, x, symTag 109 1⟩ with
        | false => rfl
        | true => exact absurd ((macEq_iff _ _ _).1 hb) h
      rw [this]
    rw [algMac_new (by omega) hf (by simp)]; rfl
theorem key_free (seed : Tag) (ms : List G_api_Mac) (bs : List G_api_Sealed) (n : Nat) (hn : n < 65536) : algKey ⟨true, seed, n, ms, bs⟩ = (⟨true, seed, n + 1, ms, bs⟩, symTag 107 (n + 1), 0) := by
  unfold algKey
  rw [if_neg (by show ¬ (65536 ≤ (n : Int)); omega)]; rfl
theorem key_f1 (seed : Tag) : algKey ⟨true, seed, 0, [], []⟩ = (⟨true, seed, 1, [], []⟩, symTag 107 1, 0) := key_free seed [] [] 0 (by omega)
theorem key_f2 (seed : Tag) : algKey ⟨true, seed, 1, [], []⟩ = (⟨true, seed, 2, [], []⟩, symTag 107 2, 0) := key_free seed [] [] 1 (by omega)
theorem key_free2 {a : Alg} (h : a.Free = true) (h2 : a.Fresh = 2) : ∃ b, algKey a = (b, symTag 107 3, 0) := by
  unfold algKey
  rw [h2, h]
  exact ⟨_, rfl⟩
theorem AlgebraFree_c (deck : List Int) (x y : List UInt8) : FunA gl Tryd.prog 8 [.v deck, .v x, .v y] (fun r => r = .v true) := by
  refine FunA.intro Tryd.func8 rfl (by kernel_rfl) 148 rfl rfl _ rfl fun C hC hG => ?_
  have s12 : symTag 107 1 ≠ symTag 107 2 := by decide +kernel
  have s13 : symTag 107 3 ≠ symTag 107 1 := by decide +kernel
  have m12 : symTag 109 1 ≠ symTag 109 2 := by decide +kernel
  have a1 : symTag 109 1 ≠ symTag 107 1 := by decide +kernel
  have a2 : symTag 109 1 ≠ symTag 107 2 := by decide +kernel
  have q3 : symTag 107 3 ≠ symTag 109 1 := by decide +kernel
  have b1 : symTag 109 2 ≠ symTag 107 1 := by decide +kernel
  have b2 : symTag 109 2 ≠ symTag 107 2 := by decide +kernel
  have b3 : symTag 107 3 ≠ symTag 109 2 := by decide +kernel
  refine .seq ?_
  refine .region rfl ?_
  refine .p (.assign .b ?_)
  refine .nil ?_
  refine .seq ?_
  refine .region rfl ?_
  refine .p (.move (.t rfl) (.p (.call hG (short10_c _) (.cons (.t rfl) .nil) fun r23 hr23 => ?_)))
  obtain ⟨x, hx, rfl⟩ := hr23
  refine .p (.move (.t rfl) (.p (.call hG (short10_c _) (.cons (.t rfl) .nil) fun r25 hr25 => ?_)))
  obtain ⟨y, hy, rfl⟩ := hr25
  refine .p (.assign (.t rfl) (.p (.assign (.t rfl) ?_)))
  refine .nil ?_
  refine .seq ?_
  refine .region rfl ?_
  refine .p (.move (.t rfl) (.h (.call0 hG (deckNew_c _) (.cons (.t rfl) .nil) fun r27 Hs27 hr27 => ?_)))
  obtain ⟨b27, rfl, rfl⟩ := hr27
  show wpB _ _ _ _ _ _ _ ((true, _) :: _)
  have hd : DeckOk (⟨deck, 0⟩ : G_macaroonmade_Deck) := Int.le_refl 0
  refine .p (.assign (.t rfl) ?_)
  refine .nil ?_
  refine .seq ?_
  refine .region rfl ?_
  refine .p (.move (.t rfl) (.h (.callM hG (Algebra_deck_c _ _ (by assumption)) .z (.cons (.t rfl) .nil) (by rintro _ _ ⟨_, _, _, _, _, rfl⟩; exact ⟨_, rfl⟩) fun r29 B29 hr29 => ?_)))
  obtain ⟨a, d29, ha, hd29, rfl, hB⟩ := hr29
  cases hB
  refine .h (.alloc ty32 fun b8 => .n (.stW ty32 (.t rfl) (.t rfl) .z ?_))
  refine .nil ?_
  refine .seq ?_
  refine .region rfl ?_
  refine .p (.fldW G_api_Algebra.l1 fd32_1 rfl (.t rfl) (.p (.ldF (fun x => x.Seed) ty28 (.t rfl) .z (fun _ => rfl) (.p (.call1 hG (algNew_c _ _) (.cons .b (.cons (.t rfl) .nil)) (.n (.stW ty32 (.t rfl) (.t rfl) .z ?_)))))))
  refine .nil ?_
  refine .seq ?_
  refine .region rfl ?_
  refine .p (.ldW ty32 (.t rfl) .z (.p (.call1 hG (key_as (Int.le_refl _) (key_f1 a.Seed)) (.cons (.t rfl) .nil) (.p (.move (.t rfl) (.p (.ext3_0 (.t rfl) (.p (.ext3_1 (.t rfl) (.p (.ext3_2 (.t rfl) ?_)))))))))))
  refine .h (.alloc ty28 fun b9 => .n (.stW ty32 (.t rfl) (.t rfl) (.s .z) (.n (.stW ty28 (.t rfl) (.t rfl) .z (.p (.assign (.t rfl) ?_))))))
  refine .nil ?_
  refine .seq ?_
  refine .region rfl ?_
  refine .p (.ldW ty32 (.t rfl) (.s .z) (.p (.call1 hG (key_as (show (0 : Int) ≤ 1 by decide) (key_f2 a.Seed)) (.cons (.t rfl) .nil) (.p (.move (.t rfl) (.p (.ext3_0 (.t rfl) (.p (.ext3_1 (.t rfl) (.p (.ext3_2 (.t rfl) ?_)))))))))))
  refine .h (.alloc ty28 fun b11 => .n (.stW ty32 (.t rfl) (.t rfl) (.s (.s .z)) (.n (.stW ty28 (.t rfl) (.t rfl) .z (.p (.assign (.t rfl) ?_))))))
  refine .nil ?_
  refine .seq ?_
  refine .seq ?_
  refine .region rfl ?_
  refine .p (.move (.t rfl) (.p (.neqI (.t rfl) (.i rfl) (.p (.move (.t rfl) ?_)))))
  refine .go 47 rfl (.t rfl) (fun hg48 => .move (.t rfl) rfl) ?_
  refine .go 47 rfl (.t rfl) (fun hg49 => .neqI (.o rfl (beq_iff_eq.2 hg49)) (.i rfl) rfl) ?_
  refine .p (.pickOr (.t rfl) (fun hp => (.o rfl (beq_iff_eq.2 hp))) (.p (.move (.t rfl) ?_)))
  refine .go 51 rfl (.t rfl) (fun hg52 => .ldW ty28 (.t rfl) (.s .z) rfl) ?_
  refine .go 51 rfl (.t rfl) (fun hg53 => .ldW ty28 (.t rfl) .z rfl) ?_
  refine .go 51 rfl (.t rfl) (fun hg54 => .eqlA8 Tryd.underlying28 sz5 Tryd.underlying5 gd28 (.o rfl (beq_iff_eq.2 hg54)) (.o rfl (beq_iff_eq.2 hg54)) rfl) ?_
  refine .p (.pickOr (.t rfl) (fun hp => (.o rfl (beq_iff_eq.2 hp))) ?_)
  refine .nil ?_
  refine .cond (.t rfl) (fun hc55 => ?_) (fun hc55 => ?_)
  · refine .seq ?_
    refine .region rfl ?_
    refine .p (.assign .b ?_)
    refine .nil ?_
    refine .ret ?_
    refine ⟨_, .r1 rfl (.tmp rfl), ?_⟩
    exfalso; simp [s12] at hc55
  · refine .skip ?_
    refine .seq ?_
    refine .region rfl ?_
    refine .p (.move (.t rfl) (.p (.ldW ty32 (.t rfl) (.s (.s .z)) (.h (.callM hG (Known_deck_c _ _ _ (by assumption) (by simp) (by simp)) (.s (.s (.s .z))) (.cons (.t rfl) (.cons (.t rfl) .nil)) (by rintro _ _ ⟨_, _, _, _, rfl⟩; exact ⟨_, rfl⟩) fun r58 B58 hr58 => ?_)))))
    obtain ⟨j0, d58, hd58, rfl, hB⟩ := hr58
    cases hB
    refine .h (.alloc ty28 fun b13 => .n (.stW ty28 (.t rfl) (.t rfl) .z ?_))
    refine .nil ?_
    refine .seq ?_
    refine .seq ?_
    refine .region rfl ?_
    refine .p (.move (.t rfl) (.h (.callM hG (Next_e _ _ _ (by assumption) (by first | omega | (simp; done) | (simp; omega) | (simp at *; omega)) (by first | omega | (simp; done) | (simp; omega) | (simp at *; omega))) (.s (.s (.s (.s .z)))) (.cons (.t rfl) (.cons (.i rfl) .nil)) (by rintro _ _ ⟨_, _, _, _, _, _, rfl⟩; exact ⟨_, rfl⟩) fun r60 B60 hr60 => ?_)))
    obtain ⟨v60, d60, h060, h160, hd60, rfl, hB⟩ := hr60
    cases hB
    refine .p (.eqlI (.t rfl) (.i rfl) ?_)
    refine .nil ?_
    refine .cond (.t rfl) (fun hc61 => ?_) (fun hc61 => ?_)
    · refine .region rfl ?_
      refine .p (.ldW ty28 (.t rfl) (.s (.s .z)) (.n (.stW ty28 (.t rfl) (.t rfl) .z ?_)))
      refine .nil ?_
      refine .seq ?_
      obtain ⟨a3, e3, a4, u, e4, l3, f4, g4, hu⟩ := AlgebraFree_plain a.Seed (symTag 107 1) (symTag 107 1) x y rfl hx hy
      refine .region rfl ?_
      refine .p (.ldW ty32 (.t rfl) (.s (.s (.s .z))) (.p (.ldW ty28 (.t rfl) (.s (.s .z)) (.p (.move (.t rfl) (.p (.call1 hG (mac_as (by simp) e3) (.cons (.t rfl) (.cons (.t rfl) (.cons (.t rfl) .nil))) (.p (.move (.t rfl) (.p (.ext3_0 (.t rfl) ?_)))))))))))
      refine .p (.ext3_1 (.t rfl) (.p (.ext3_2 (.t rfl) (.h (.alloc ty28 fun b14 => .n (.stW ty32 (.t rfl) (.t rfl) (.s (.s (.s (.s .z)))) (.n (.stW ty28 (.t rfl) (.t rfl) .z (.p (.assign (.t rfl) ?_))))))))))
      refine .nil ?_
      refine .seq ?_
      refine .region rfl ?_
      refine .p (.ldW ty32 (.t rfl) (.s (.s (.s (.s .z)))) (.p (.ldW ty28 (.t rfl) (.s .z) (.p (.move (.t rfl) (.p (.call1 hG (mac_as (by omega) e4) (.cons (.t rfl) (.cons (.t rfl) (.cons (.t rfl) .nil))) (.p (.move (.t rfl) (.p (.ext3_0 (.t rfl) ?_)))))))))))
      refine .p (.ext3_1 (.t rfl) (.p (.ext3_2 (.t rfl) (.h (.alloc ty28 fun b16 => .n (.stW ty32 (.t rfl) (.t rfl) (.s (.s (.s (.s (.s .z))))) (.n (.stW ty28 (.t rfl) (.t rfl) .z (.p (.assign (.t rfl) ?_))))))))))
      refine .nil ?_
      refine .seq ?_
      obtain ⟨a5, e5⟩ := key_free2 g4 f4
      refine .region rfl ?_
      refine .p (.ldW ty32 (.t rfl) (.s (.s (.s (.s (.s .z))))) (.p (.call1 hG (key_as (by omega) e5) (.cons (.t rfl) .nil) (.p (.move (.t rfl) (.p (.ext3_0 (.t rfl) (.p (.ext3_1 (.t rfl) (.p (.ext3_2 (.t rfl) ?_)))))))))))
      refine .h (.alloc ty32 fun b18 => .h (.alloc ty28 fun b19 => .n (.stW ty32 (.t rfl) (.t rfl) (.s .z) (.n (.stW ty28 (.t rfl) (.t rfl) .z (.p (.assign (.t rfl) ?_)))))))
      refine .nil ?_
      refine .seq ?_
      refine .region rfl ?_
      refine .p (.ldW ty28 (.t rfl) (.s (.s (.s (.s (.s (.s .z)))))) (.p (.ldW ty28 (.t rfl) (.s (.s (.s (.s .z)))) (.p (.eqlA8 Tryd.underlying28 sz5 Tryd.underlying5 gd28 (.t rfl) (.t rfl) (.p (.move (.t rfl) ?_)))))))
      refine .go 88 rfl (.t rfl) (fun hg89 => .move (.t rfl) rfl) ?_
      refine .go 88 rfl (.t rfl) (fun hg90 => .move (.t rfl) rfl) ?_
      refine .go 88 rfl (.t rfl) (fun hg91 => .call1 hG (Same_c _ _) (.cons (.o rfl (beq_iff_eq.2 hg91)) (.cons (.o rfl (beq_iff_eq.2 hg91)) .nil)) rfl) ?_
      refine .p (.pickAnd (.t rfl) (fun hp => (.o rfl (beq_iff_eq.2 hp))) (.p (.assign (.t rfl) ?_)))
      refine .nil ?_
      refine .seq ?_
      refine .region rfl ?_
      refine .p (.move (.t rfl) (.p (.eqlI (.t rfl) (.i rfl) (.p (.move (.t rfl) ?_)))))
      refine .go 95 rfl (.t rfl) (fun hg96 => .move (.t rfl) rfl) ?_
      refine .go 95 rfl (.t rfl) (fun hg97 => .eqlI (.o rfl (beq_iff_eq.2 hg97)) (.i rfl) rfl) ?_
      refine .p (.pickAnd (.t rfl) (fun hp => (.o rfl (beq_iff_eq.2 hp))) (.p (.move (.t rfl) ?_)))
      refine .go 99 rfl (.t rfl) (fun hg100 => .move (.t rfl) rfl) ?_
      refine .go 99 rfl (.t rfl) (fun hg101 => .eqlI (.o rfl (beq_iff_eq.2 hg101)) (.i rfl) rfl) ?_
      refine .p (.pickAnd (.t rfl) (fun hp => (.o rfl (beq_iff_eq.2 hp))) (.p (.move (.t rfl) ?_)))
      refine .go 103 rfl (.t rfl) (fun hg104 => .ldW ty28 (.t rfl) (.s (.s (.s .z))) rfl) ?_
      refine .go 103 rfl (.t rfl) (fun hg105 => .ldW ty28 (.t rfl) (.s (.s .z)) rfl) ?_
      refine .go 103 rfl (.t rfl) (fun hg106 => .eqlA8 Tryd.underlying28 sz5 Tryd.underlying5 gd28 (.o rfl (beq_iff_eq.2 hg106)) (.o rfl (beq_iff_eq.2 hg106)) rfl) ?_
      refine .go 103 rfl (.t rfl) (fun hg107 => .move (.t rfl) rfl) ?_
      refine .go 103 rfl (.t rfl) (fun hg108 => .eqlBl Tryd.underlying4 (.o rfl (beq_iff_eq.2 hg108)) (.o rfl (beq_iff_eq.2 hg108)) rfl) ?_
      refine .p (.pickAnd (.t rfl) (fun hp => (.o rfl (beq_iff_eq.2 hp))) (.p (.move (.t rfl) ?_)))
      refine .go 110 rfl (.t rfl) (fun hg111 => .ldW ty28 (.t rfl) (.s (.s (.s .z))) rfl) ?_
      refine .go 110 rfl (.t rfl) (fun hg112 => .ldW ty28 (.t rfl) (.s (.s (.s (.s (.s (.s .z)))))) rfl) ?_
      refine .go 110 rfl (.t rfl) (fun hg113 => .neqA8 Tryd.underlying28 sz5 Tryd.underlying5 gd28 (.o rfl (beq_iff_eq.2 hg113)) (.o rfl (beq_iff_eq.2 hg113)) rfl) ?_
      refine .p (.pickAnd (.t rfl) (fun hp => (.o rfl (beq_iff_eq.2 hp))) (.p (.move (.t rfl) ?_)))
      refine .go 115 rfl (.t rfl) (fun hg116 => .ldW ty28 (.t rfl) (.s (.s (.s .z))) rfl) ?_
      refine .go 115 rfl (.t rfl) (fun hg117 => .ldW ty28 (.t rfl) (.s (.s (.s (.s (.s .z))))) rfl) ?_
      refine .go 115 rfl (.t rfl) (fun hg118 => .neqA8 Tryd.underlying28 sz5 Tryd.underlying5 gd28 (.o rfl (beq_iff_eq.2 hg118)) (.o rfl (beq_iff_eq.2 hg118)) rfl) ?_
      refine .p (.pickAnd (.t rfl) (fun hp => (.o rfl (beq_iff_eq.2 hp))) (.p (.move (.t rfl) ?_)))
      refine .go 120 rfl (.t rfl) (fun hg121 => .ldW ty28 (.t rfl) (.s (.s .z)) rfl) ?_
      refine .go 120 rfl (.t rfl) (fun hg122 => .ldW ty28 (.t rfl) (.s (.s (.s (.s (.s (.s .z)))))) rfl) ?_
      refine .go 120 rfl (.t rfl) (fun hg123 => .neqA8 Tryd.underlying28 sz5 Tryd.underlying5 gd28 (.o rfl (beq_iff_eq.2 hg123)) (.o rfl (beq_iff_eq.2 hg123)) rfl) ?_
      refine .p (.pickAnd (.t rfl) (fun hp => (.o rfl (beq_iff_eq.2 hp))) (.p (.move (.t rfl) ?_)))
      refine .go 125 rfl (.t rfl) (fun hg126 => .ldW ty28 (.t rfl) (.s (.s .z)) rfl) ?_
      refine .go 125 rfl (.t rfl) (fun hg127 => .ldW ty28 (.t rfl) (.s (.s (.s (.s (.s .z))))) rfl) ?_
      refine .go 125 rfl (.t rfl) (fun hg128 => .neqA8 Tryd.underlying28 sz5 Tryd.underlying5 gd28 (.o rfl (beq_iff_eq.2 hg128)) (.o rfl (beq_iff_eq.2 hg128)) rfl) ?_
      refine .p (.pickAnd (.t rfl) (fun hp => (.o rfl (beq_iff_eq.2 hp))) (.p (.move (.t rfl) ?_)))
      refine .go 130 rfl (.t rfl) (fun hg131 => .ldW ty28 (.t rfl) .z rfl) ?_
      refine .go 130 rfl (.t rfl) (fun hg132 => .ldW ty28 (.t rfl) (.s (.s (.s (.s (.s (.s .z)))))) rfl) ?_
      refine .go 130 rfl (.t rfl) (fun hg133 => .neqA8 Tryd.underlying28 sz5 Tryd.underlying5 gd28 (.o rfl (beq_iff_eq.2 hg133)) (.o rfl (beq_iff_eq.2 hg133)) rfl) ?_
      refine .p (.pickAnd (.t rfl) (fun hp => (.o rfl (beq_iff_eq.2 hp))) (.p (.move (.t rfl) ?_)))
      refine .go 135 rfl (.t rfl) (fun hg136 => .ldW ty28 (.t rfl) .z rfl) ?_
      refine .go 135 rfl (.t rfl) (fun hg137 => .ldW ty28 (.t rfl) (.s (.s (.s .z))) rfl) ?_
      refine .go 135 rfl (.t rfl) (fun hg138 => .neqA8 Tryd.underlying28 sz5 Tryd.underlying5 gd28 (.o rfl (beq_iff_eq.2 hg138)) (.o rfl (beq_iff_eq.2 hg138)) rfl) ?_
      refine .p (.pickAnd (.t rfl) (fun hp => (.o rfl (beq_iff_eq.2 hp))) (.p (.move (.t rfl) ?_)))
      refine .go 140 rfl (.t rfl) (fun hg141 => .ldW ty28 (.t rfl) .z rfl) ?_
      refine .go 140 rfl (.t rfl) (fun hg142 => .ldW ty28 (.t rfl) (.s (.s .z)) rfl) ?_
      refine .go 140 rfl (.t rfl) (fun hg143 => .neqA8 Tryd.underlying28 sz5 Tryd.underlying5 gd28 (.o rfl (beq_iff_eq.2 hg143)) (.o rfl (beq_iff_eq.2 hg143)) rfl) ?_
      refine .p (.pickAnd (.t rfl) (fun hp => (.o rfl (beq_iff_eq.2 hp))) (.p (.move (.t rfl) ?_)))
      refine .go 145 rfl (.t rfl) (fun hg146 => .call1 hG (awake10_c) .nil rfl) ?_
      refine .p (.pickAnd (.t rfl) (fun hp => (.o rfl (beq_iff_eq.2 hp))) (.p (.assign (.t rfl) ?_)))
      refine .nil ?_
      refine .ret ?_
      refine ⟨_, .r1 rfl (.tmp rfl), ?_⟩
      rcases hu with ⟨rfl, h1, rfl⟩ | ⟨rfl, h⟩
      · (try subst h1); simp [s12, s13, m12, a1, a2, q3]
      · have m21 := Ne.symm m12; simp [s12, s13, m12, a1, a2, b1, b2, b3, q3]; first | done | exact fun e => h ⟨rfl, e⟩ | exact Classical.not_and_iff_not_or_not.1 h
    · refine .skip ?_
      refine .seq ?_
      obtain ⟨a3, e3, a4, u, e4, l3, f4, g4, hu⟩ := AlgebraFree_plain a.Seed (symTag 107 1) j0 x y rfl hx hy
      refine .region rfl ?_
      refine .p (.ldW ty32 (.t rfl) (.s (.s (.s .z))) (.p (.ldW ty28 (.t rfl) (.s (.s .z)) (.p (.move (.t rfl) (.p (.call1 hG (mac_as (by simp) e3) (.cons (.t rfl) (.cons (.t rfl) (.cons (.t rfl) .nil))) (.p (.move (.t rfl) (.p (.ext3_0 (.t rfl) ?_)))))))))))
      refine .p (.ext3_1 (.t rfl) (.p (.ext3_2 (.t rfl) (.h (.alloc ty28 fun b14 => .n (.stW ty32 (.t rfl) (.t rfl) (.s (.s (.s (.s .z)))) (.n (.stW ty28 (.t rfl) (.t rfl) .z (.p (.assign (.t rfl) ?_))))))))))
      refine .nil ?_
      refine .seq ?_
      refine .region rfl ?_
      refine .p (.ldW ty32 (.t rfl) (.s (.s (.s (.s .z)))) (.p (.ldW ty28 (.t rfl) (.s .z) (.p (.move (.t rfl) (.p (.call1 hG (mac_as (by omega) e4) (.cons (.t rfl) (.cons (.t rfl) (.cons (.t rfl) .nil))) (.p (.move (.t rfl) (.p (.ext3_0 (.t rfl) ?_)))))))))))
      refine .p (.ext3_1 (.t rfl) (.p (.ext3_2 (.t rfl) (.h (.alloc ty28 fun b16 => .n (.stW ty32 (.t rfl) (.t rfl) (.s (.s (.s (.s (.s .z))))) (.n (.stW ty28 (.t rfl) (.t rfl) .z (.p (.assign (.t rfl) ?_))))))))))
      refine .nil ?_
      refine .seq ?_
      obtain ⟨a5, e5⟩ := key_free2 g4 f4
      refine .region rfl ?_
      refine .p (.ldW ty32 (.t rfl) (.s (.s (.s (.s (.s .z))))) (.p (.call1 hG (key_as (by omega) e5) (.cons (.t rfl) .nil) (.p (.move (.t rfl) (.p (.ext3_0 (.t rfl) (.p (.ext3_1 (.t rfl) (.p (.ext3_2 (.t rfl) ?_)))))))))))
      refine .h (.alloc ty32 fun b18 => .h (.alloc ty28 fun b19 => .n (.stW ty32 (.t rfl) (.t rfl) (.s .z) (.n (.stW ty28 (.t rfl) (.t rfl) .z (.p (.assign (.t rfl) ?_)))))))
      refine .nil ?_
      refine .seq ?_
      refine .region rfl ?_
      refine .p (.ldW ty28 (.t rfl) (.s (.s (.s (.s (.s (.s .z)))))) (.p (.ldW ty28 (.t rfl) (.s (.s (.s (.s .z)))) (.p (.eqlA8 Tryd.underlying28 sz5 Tryd.underlying5 gd28 (.t rfl) (.t rfl) (.p (.move (.t rfl) ?_)))))))
      refine .go 88 rfl (.t rfl) (fun hg89 => .move (.t rfl) rfl) ?_
      refine .go 88 rfl (.t rfl) (fun hg90 => .move (.t rfl) rfl) ?_
      refine .go 88 rfl (.t rfl) (fun hg91 => .call1 hG (Same_c _ _) (.cons (.o rfl (beq_iff_eq.2 hg91)) (.cons (.o rfl (beq_iff_eq.2 hg91)) .nil)) rfl) ?_
      refine .p (.pickAnd (.t rfl) (fun hp => (.o rfl (beq_iff_eq.2 hp))) (.p (.assign (.t rfl) ?_)))
      refine .nil ?_
      refine .seq ?_
      refine .region rfl ?_
      refine .p (.move (.t rfl) (.p (.eqlI (.t rfl) (.i rfl) (.p (.move (.t rfl) ?_)))))
      refine .go 95 rfl (.t rfl) (fun hg96 => .move (.t rfl) rfl) ?_
      refine .go 95 rfl (.t rfl) (fun hg97 => .eqlI (.o rfl (beq_iff_eq.2 hg97)) (.i rfl) rfl) ?_
      refine .p (.pickAnd (.t rfl) (fun hp => (.o rfl (beq_iff_eq.2 hp))) (.p (.move (.t rfl) ?_)))
      refine .go 99 rfl (.t rfl) (fun hg100 => .move (.t rfl) rfl) ?_
      refine .go 99 rfl (.t rfl) (fun hg101 => .eqlI (.o rfl (beq_iff_eq.2 hg101)) (.i rfl) rfl) ?_
      refine .p (.pickAnd (.t rfl) (fun hp => (.o rfl (beq_iff_eq.2 hp))) (.p (.move (.t rfl) ?_)))
      refine .go 103 rfl (.t rfl) (fun hg104 => .ldW ty28 (.t rfl) (.s (.s (.s .z))) rfl) ?_
      refine .go 103 rfl (.t rfl) (fun hg105 => .ldW ty28 (.t rfl) (.s (.s .z)) rfl) ?_
      refine .go 103 rfl (.t rfl) (fun hg106 => .eqlA8 Tryd.underlying28 sz5 Tryd.underlying5 gd28 (.o rfl (beq_iff_eq.2 hg106)) (.o rfl (beq_iff_eq.2 hg106)) rfl) ?_
      refine .go 103 rfl (.t rfl) (fun hg107 => .move (.t rfl) rfl) ?_
      refine .go 103 rfl (.t rfl) (fun hg108 => .eqlBl Tryd.underlying4 (.o rfl (beq_iff_eq.2 hg108)) (.o rfl (beq_iff_eq.2 hg108)) rfl) ?_
      refine .p (.pickAnd (.t rfl) (fun hp => (.o rfl (beq_iff_eq.2 hp))) (.p (.move (.t rfl) ?_)))
      refine .go 110 rfl (.t rfl) (fun hg111 => .ldW ty28 (.t rfl) (.s (.s (.s .z))) rfl) ?_
      refine .go 110 rfl (.t rfl) (fun hg112 => .ldW ty28 (.t rfl) (.s (.s (.s (.s (.s (.s .z)))))) rfl) ?_
      refine .go 110 rfl (.t rfl) (fun hg113 => .neqA8 Tryd.underlying28 sz5 Tryd.underlying5 gd28 (.o rfl (beq_iff_eq.2 hg113)) (.o rfl (beq_iff_eq.2 hg113)) rfl) ?_
      refine .p (.pickAnd (.t rfl) (fun hp => (.o rfl (beq_iff_eq.2 hp))) (.p (.move (.t rfl) ?_)))
      refine .go 115 rfl (.t rfl) (fun hg116 => .ldW ty28 (.t rfl) (.s (.s (.s .z))) rfl) ?_
      refine .go 115 rfl (.t rfl) (fun hg117 => .ldW ty28 (.t rfl) (.s (.s (.s (.s (.s .z))))) rfl) ?_
      refine .go 115 rfl (.t rfl) (fun hg118 => .neqA8 Tryd.underlying28 sz5 Tryd.underlying5 gd28 (.o rfl (beq_iff_eq.2 hg118)) (.o rfl (beq_iff_eq.2 hg118)) rfl) ?_
      refine .p (.pickAnd (.t rfl) (fun hp => (.o rfl (beq_iff_eq.2 hp))) (.p (.move (.t rfl) ?_)))
      refine .go 120 rfl (.t rfl) (fun hg121 => .ldW ty28 (.t rfl) (.s (.s .z)) rfl) ?_
      refine .go 120 rfl (.t rfl) (fun hg122 => .ldW ty28 (.t rfl) (.s (.s (.s (.s (.s (.s .z)))))) rfl) ?_
      refine .go 120 rfl (.t rfl) (fun hg123 => .neqA8 Tryd.underlying28 sz5 Tryd.underlying5 gd28 (.o rfl (beq_iff_eq.2 hg123)) (.o rfl (beq_iff_eq.2 hg123)) rfl) ?_
      refine .p (.pickAnd (.t rfl) (fun hp => (.o rfl (beq_iff_eq.2 hp))) (.p (.move (.t rfl) ?_)))
      refine .go 125 rfl (.t rfl) (fun hg126 => .ldW ty28 (.t rfl) (.s (.s .z)) rfl) ?_
      refine .go 125 rfl (.t rfl) (fun hg127 => .ldW ty28 (.t rfl) (.s (.s (.s (.s (.s .z))))) rfl) ?_
      refine .go 125 rfl (.t rfl) (fun hg128 => .neqA8 Tryd.underlying28 sz5 Tryd.underlying5 gd28 (.o rfl (beq_iff_eq.2 hg128)) (.o rfl (beq_iff_eq.2 hg128)) rfl) ?_
      refine .p (.pickAnd (.t rfl) (fun hp => (.o rfl (beq_iff_eq.2 hp))) (.p (.move (.t rfl) ?_)))
      refine .go 130 rfl (.t rfl) (fun hg131 => .ldW ty28 (.t rfl) .z rfl) ?_
      refine .go 130 rfl (.t rfl) (fun hg132 => .ldW ty28 (.t rfl) (.s (.s (.s (.s (.s (.s .z)))))) rfl) ?_
      refine .go 130 rfl (.t rfl) (fun hg133 => .neqA8 Tryd.underlying28 sz5 Tryd.underlying5 gd28 (.o rfl (beq_iff_eq.2 hg133)) (.o rfl (beq_iff_eq.2 hg133)) rfl) ?_
      refine .p (.pickAnd (.t rfl) (fun hp => (.o rfl (beq_iff_eq.2 hp))) (.p (.move (.t rfl) ?_)))
      refine .go 135 rfl (.t rfl) (fun hg136 => .ldW ty28 (.t rfl) .z rfl) ?_
      refine .go 135 rfl (.t rfl) (fun hg137 => .ldW ty28 (.t rfl) (.s (.s (.s .z))) rfl) ?_
      refine .go 135 rfl (.t rfl) (fun hg138 => .neqA8 Tryd.underlying28 sz5 Tryd.underlying5 gd28 (.o rfl (beq_iff_eq.2 hg138)) (.o rfl (beq_iff_eq.2 hg138)) rfl) ?_
      refine .p (.pickAnd (.t rfl) (fun hp => (.o rfl (beq_iff_eq.2 hp))) (.p (.move (.t rfl) ?_)))
      refine .go 140 rfl (.t rfl) (fun hg141 => .ldW ty28 (.t rfl) .z rfl) ?_
      refine .go 140 rfl (.t rfl) (fun hg142 => .ldW ty28 (.t rfl) (.s (.s .z)) rfl) ?_
      refine .go 140 rfl (.t rfl) (fun hg143 => .neqA8 Tryd.underlying28 sz5 Tryd.underlying5 gd28 (.o rfl (beq_iff_eq.2 hg143)) (.o rfl (beq_iff_eq.2 hg143)) rfl) ?_
      refine .p (.pickAnd (.t rfl) (fun hp => (.o rfl (beq_iff_eq.2 hp))) (.p (.move (.t rfl) ?_)))
      refine .go 145 rfl (.t rfl) (fun hg146 => .call1 hG (awake10_c) .nil rfl) ?_
      refine .p (.pickAnd (.t rfl) (fun hp => (.o rfl (beq_iff_eq.2 hp))) (.p (.assign (.t rfl) ?_)))
      refine .nil ?_
      refine .ret ?_
      refine ⟨_, .r1 rfl (.tmp rfl), ?_⟩
      rcases hu with ⟨rfl, h1, rfl⟩ | ⟨rfl, h⟩
      · (try subst h1); simp [s12, s13, m12, a1, a2, q3]
      · have m21 := Ne.symm m12; simp [s12, s13, m12, a1, a2, b1, b2, b3, q3]; first | done | exact fun e => h ⟨rfl, e⟩ | exact Classical.not_and_iff_not_or_not.1 h
end Go.Proofs.YtiekhjbhlekaeaaDoor
