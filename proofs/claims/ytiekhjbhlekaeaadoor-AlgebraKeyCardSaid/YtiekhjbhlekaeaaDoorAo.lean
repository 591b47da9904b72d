/- Walks of the comparison of algebras, and of algebras made by decks. -/
import Derived.Test.YtiekhjbhlekaeaaDoorAn
import Derived.Test.YtiekhjbhlekaeaaDoorAb
set_option maxRecDepth 1000000
set_option linter.unusedVariables false
set_option linter.unusedSimpArgs false
namespace Go.Proofs.YtiekhjbhlekaeaaDoor
open Go.Fl Go.Ab Go.Mac Go.Sha
theorem sameAlg_c (a : Alg) : FunA gl Tryd.prog 23 [.v a, .v a] (fun r => r = .v true) := by
  refine FunA.intro Tryd.func23 rfl (by kernel_rfl) 142 rfl rfl _ rfl fun C hC hG => ?_
  refine .seq ?_
  refine .region rfl ?_
  refine .h (.box (.t rfl) fun b2 => .h (.box (.t rfl) fun b3 => .p (.assign .b ?_)))
  refine .nil ?_
  refine .seq ?_
  refine .seq ?_
  refine .frzOb hC .z ?_
  refine .asP 3 rfl .z ?_
  refine .frzOb hC (.s .z) ?_
  refine .asP 2 rfl (.s .z) ?_
  refine .drop ?_
  refine .drop ?_
  refine .region rfl ?_
  refine .p (.fldPF G_api_Algebra.l0 (fun x => x.Free) fd32_0 rfl (fun _ => rfl) (.t rfl) (.p (.ldP ty4 (.t rfl) (.p (.fldPF G_api_Algebra.l0 (fun x => x.Free) fd32_0 rfl (fun _ => rfl) (.t rfl) (.p (.ldP ty4 (.t rfl) (.p (.neqBl Tryd.underlying4 (.t rfl) (.t rfl) (.p (.move (.t rfl) ?_)))))))))))
  refine .go 14 rfl (.t rfl) (fun hg15 => .fldPF G_api_Algebra.l1 (fun x => x.Seed) fd32_1 rfl (fun _ => rfl) (.t rfl) rfl) ?_
  refine .go 14 rfl (.t rfl) (fun hg16 => .ldP ty28 (.o rfl (beq_iff_eq.2 hg16)) rfl) ?_
  refine .go 14 rfl (.t rfl) (fun hg17 => .fldPF G_api_Algebra.l1 (fun x => x.Seed) fd32_1 rfl (fun _ => rfl) (.t rfl) rfl) ?_
  refine .go 14 rfl (.t rfl) (fun hg18 => .ldP ty28 (.o rfl (beq_iff_eq.2 hg18)) rfl) ?_
  refine .go 14 rfl (.t rfl) (fun hg19 => .neqA8 Tryd.underlying28 sz5 Tryd.underlying5 gd28 (.o rfl (beq_iff_eq.2 hg19)) (.o rfl (beq_iff_eq.2 hg19)) rfl) ?_
  refine .p (.pickOr (.t rfl) (fun hp => (.o rfl (beq_iff_eq.2 hp))) (.p (.move (.t rfl) ?_)))
  refine .go 21 rfl (.t rfl) (fun hg22 => .fldPF G_api_Algebra.l2 (fun x => x.Fresh) fd32_2 rfl (fun _ => rfl) (.t rfl) rfl) ?_
  refine .go 21 rfl (.t rfl) (fun hg23 => .ldP ty3 (.o rfl (beq_iff_eq.2 hg23)) rfl) ?_
  refine .go 21 rfl (.t rfl) (fun hg24 => .fldPF G_api_Algebra.l2 (fun x => x.Fresh) fd32_2 rfl (fun _ => rfl) (.t rfl) rfl) ?_
  refine .go 21 rfl (.t rfl) (fun hg25 => .ldP ty3 (.o rfl (beq_iff_eq.2 hg25)) rfl) ?_
  refine .go 21 rfl (.t rfl) (fun hg26 => .neqI (.o rfl (beq_iff_eq.2 hg26)) (.o rfl (beq_iff_eq.2 hg26)) rfl) ?_
  refine .p (.pickOr (.t rfl) (fun hp => (.o rfl (beq_iff_eq.2 hp))) (.p (.move (.t rfl) ?_)))
  refine .go 28 rfl (.t rfl) (fun hg29 => .fldPF G_api_Algebra.l3 (fun x => x.Macs) fd32_3 rfl (fun _ => rfl) (.t rfl) rfl) ?_
  refine .go 28 rfl (.t rfl) (fun hg30 => .ldP ty29 (.o rfl (beq_iff_eq.2 hg30)) rfl) ?_
  refine .go 28 rfl (.t rfl) (fun hg31 => .len Tryd.underlying29 (.o rfl (beq_iff_eq.2 hg31)) rfl) ?_
  refine .go 28 rfl (.t rfl) (fun hg32 => .fldPF G_api_Algebra.l3 (fun x => x.Macs) fd32_3 rfl (fun _ => rfl) (.t rfl) rfl) ?_
  refine .go 28 rfl (.t rfl) (fun hg33 => .ldP ty29 (.o rfl (beq_iff_eq.2 hg33)) rfl) ?_
  refine .go 28 rfl (.t rfl) (fun hg34 => .len Tryd.underlying29 (.o rfl (beq_iff_eq.2 hg34)) rfl) ?_
  refine .go 28 rfl (.t rfl) (fun hg35 => .neqI (.o rfl (beq_iff_eq.2 hg35)) (.o rfl (beq_iff_eq.2 hg35)) rfl) ?_
  refine .p (.pickOr (.t rfl) (fun hp => (.o rfl (beq_iff_eq.2 hp))) (.p (.move (.t rfl) ?_)))
  refine .go 37 rfl (.t rfl) (fun hg38 => .fldPF G_api_Algebra.l4 (fun x => x.Boxes) fd32_4 rfl (fun _ => rfl) (.t rfl) rfl) ?_
  refine .go 37 rfl (.t rfl) (fun hg39 => .ldP ty30 (.o rfl (beq_iff_eq.2 hg39)) rfl) ?_
  refine .go 37 rfl (.t rfl) (fun hg40 => .len Tryd.underlying30 (.o rfl (beq_iff_eq.2 hg40)) rfl) ?_
  refine .go 37 rfl (.t rfl) (fun hg41 => .fldPF G_api_Algebra.l4 (fun x => x.Boxes) fd32_4 rfl (fun _ => rfl) (.t rfl) rfl) ?_
  refine .go 37 rfl (.t rfl) (fun hg42 => .ldP ty30 (.o rfl (beq_iff_eq.2 hg42)) rfl) ?_
  refine .go 37 rfl (.t rfl) (fun hg43 => .len Tryd.underlying30 (.o rfl (beq_iff_eq.2 hg43)) rfl) ?_
  refine .go 37 rfl (.t rfl) (fun hg44 => .neqI (.o rfl (beq_iff_eq.2 hg44)) (.o rfl (beq_iff_eq.2 hg44)) rfl) ?_
  refine .p (.pickOr (.t rfl) (fun hp => (.o rfl (beq_iff_eq.2 hp))) ?_)
  refine .nil ?_
  refine .cond (.t rfl) (fun hc45 => ?_) (fun hc45 => ?_)
  · refine .seq ?_
    refine .region rfl ?_
    refine .p (.assign .b ?_)
    refine .nil ?_
    refine .ret ?_
    refine ⟨_, .r1 rfl (.tmp rfl), ?_⟩
    exact absurd hc45 (by simp)
  · refine .skip ?_
    refine .seq ?_
    refine .seq ?_
    refine .region rfl ?_
    refine .p (.assign (.i rfl) ?_)
    refine .nil ?_
    refine .block ?_
    refine .loopR (α := Nat) [(2, _), (3, _)] (fun k R => (5, .v (k : Int)) :: R) (fun k => []) (fun k => k ≤ a.Macs.length) (fun k => a.Macs.length - k) (0) (.cons rfl (.cons rfl (.nil _))) ?_ (.cons rfl (.cons rfl (.cons rfl (.nil _)))) (rfl) fun k hF => ?_
    · simp
    refine .seq ?_
    refine .seq ?_
    refine .region rfl ?_
    refine .p (.move (.t rfl) (.p (.fldPF G_api_Algebra.l3 (fun x => x.Macs) fd32_3 rfl (fun _ => rfl) (.t rfl) (.p (.ldP ty29 (.t rfl) (.p (.len Tryd.underlying29 (.t rfl) (.p (.lss (.t rfl) (.t rfl) ?_)))))))))
    refine .nil ?_
    refine .condP (.t rfl) (fun hc50 => ?_) (fun hc50 => ?_)
    · refine .skip ?_
      refine .seq ?_
      refine .block ?_
      refine .seq ?_
      refine .lenLe 48 rfl fun hl48 => ?_
      refine .draw (by kernel_rfl) 44 [[], [(53, 0)], [], [(54, 1), (55, 2)], [(56, 3)], [(57, 4)], [], [(59, 6)], [], [(60, 7), (61, 8)], [(62, 9)], [(63, 10)], [(58, 5), (64, 11)], [(65, 12)], [], [(67, 14)], [], [(68, 15), (69, 16)], [(70, 17)], [(71, 18)], [], [(73, 20)], [], [(74, 21), (75, 22)], [(76, 23)], [(77, 24)], [(72, 19), (78, 25)], [(66, 13), (79, 26)], [(80, 27)], [], [(82, 29)], [], [(83, 30), (84, 31)], [(85, 32)], [(86, 33)], [], [(88, 35)], [], [(89, 36), (90, 37)], [(91, 38)], [(92, 39)], [(87, 34), (93, 40)], [(94, 41)], [(81, 28), (95, 42)]] rfl (by kernel_rfl) rfl ?_
      refine ⟨_, OpP.fldPF G_api_Algebra.l3 (fun x => x.Macs) fd32_3 rfl (fun _ => rfl) (.t rfl) rfl, ?_⟩
      refine ⟨_, OpP.ldP ty29 (.t rfl) rfl, ?_⟩
      refine ⟨_, OpP.move (.t rfl) rfl, ?_⟩
      refine ⟨_, OpP.idx ty38 Tryd.underlying29 (.t rfl) (.t rfl) (by first | omega | (simp; done) | (simp; omega) | (simp at *; omega)) (by first | omega | (simp; done) | (simp; omega) | (simp at *; omega)) rfl, ?_⟩
      refine ⟨_, OpP.fldPF G_api_Mac.l0 (fun x => x.Key) fd38_0 rfl (fun _ => rfl) (.t rfl) rfl, ?_⟩
      refine ⟨_, OpP.ldP ty28 (.t rfl) rfl, ?_⟩
      refine ⟨_, OpP.fldPF G_api_Algebra.l3 (fun x => x.Macs) fd32_3 rfl (fun _ => rfl) (.t rfl) rfl, ?_⟩
      refine ⟨_, OpP.ldP ty29 (.t rfl) rfl, ?_⟩
      refine ⟨_, OpP.move (.t rfl) rfl, ?_⟩
      refine ⟨_, OpP.idx ty38 Tryd.underlying29 (.t rfl) (.t rfl) (by first | omega | (simp; done) | (simp; omega) | (simp at *; omega)) (by first | omega | (simp; done) | (simp; omega) | (simp at *; omega)) rfl, ?_⟩
      refine ⟨_, OpP.fldPF G_api_Mac.l0 (fun x => x.Key) fd38_0 rfl (fun _ => rfl) (.t rfl) rfl, ?_⟩
      refine ⟨_, OpP.ldP ty28 (.t rfl) rfl, ?_⟩
      refine ⟨_, OpP.neqA8 Tryd.underlying28 sz5 Tryd.underlying5 gd28 (.t rfl) (.t rfl) rfl, ?_⟩
      refine ⟨_, OpP.move (.t rfl) rfl, ?_⟩
      refine ⟨_, ⟨_, _, rfl, rfl, fun hg67 => OpP.fldPF G_api_Algebra.l3 (fun x => x.Macs) fd32_3 rfl (fun _ => rfl) (.t rfl) rfl⟩, ?_⟩
      refine ⟨_, ⟨_, _, rfl, rfl, fun hg68 => OpP.ldP ty29 (.o rfl (beq_iff_eq.2 hg68)) rfl⟩, ?_⟩
      refine ⟨_, ⟨_, _, rfl, rfl, fun hg69 => OpP.move (.t rfl) rfl⟩, ?_⟩
      refine ⟨_, ⟨_, _, rfl, rfl, fun hg70 => OpP.idx ty38 Tryd.underlying29 (.o rfl (beq_iff_eq.2 hg70)) (.o rfl (beq_iff_eq.2 hg70)) (by first | omega | (simp; omega) | (have := hg70; simp at this; omega)) (by first | omega | (simp; omega) | (have := hg70; simp at this; omega)) rfl⟩, ?_⟩
      refine ⟨_, ⟨_, _, rfl, rfl, fun hg71 => OpP.fldPF G_api_Mac.l2 (fun x => x.Tag) fd38_2 rfl (fun _ => rfl) (.o rfl (beq_iff_eq.2 hg71)) rfl⟩, ?_⟩
      refine ⟨_, ⟨_, _, rfl, rfl, fun hg72 => OpP.ldP ty28 (.o rfl (beq_iff_eq.2 hg72)) rfl⟩, ?_⟩
      refine ⟨_, ⟨_, _, rfl, rfl, fun hg73 => OpP.fldPF G_api_Algebra.l3 (fun x => x.Macs) fd32_3 rfl (fun _ => rfl) (.t rfl) rfl⟩, ?_⟩
      refine ⟨_, ⟨_, _, rfl, rfl, fun hg74 => OpP.ldP ty29 (.o rfl (beq_iff_eq.2 hg74)) rfl⟩, ?_⟩
      refine ⟨_, ⟨_, _, rfl, rfl, fun hg75 => OpP.move (.t rfl) rfl⟩, ?_⟩
      refine ⟨_, ⟨_, _, rfl, rfl, fun hg76 => OpP.idx ty38 Tryd.underlying29 (.o rfl (beq_iff_eq.2 hg76)) (.o rfl (beq_iff_eq.2 hg76)) (by first | omega | (simp; omega) | (have := hg76; simp at this; omega)) (by first | omega | (simp; omega) | (have := hg76; simp at this; omega)) rfl⟩, ?_⟩
      refine ⟨_, ⟨_, _, rfl, rfl, fun hg77 => OpP.fldPF G_api_Mac.l2 (fun x => x.Tag) fd38_2 rfl (fun _ => rfl) (.o rfl (beq_iff_eq.2 hg77)) rfl⟩, ?_⟩
      refine ⟨_, ⟨_, _, rfl, rfl, fun hg78 => OpP.ldP ty28 (.o rfl (beq_iff_eq.2 hg78)) rfl⟩, ?_⟩
      refine ⟨_, ⟨_, _, rfl, rfl, fun hg79 => OpP.neqA8 Tryd.underlying28 sz5 Tryd.underlying5 gd28 (.o rfl (beq_iff_eq.2 hg79)) (.o rfl (beq_iff_eq.2 hg79)) rfl⟩, ?_⟩
      refine ⟨_, OpP.pickOr (.t rfl) (fun hp => (.o rfl (beq_iff_eq.2 hp))) rfl, ?_⟩
      refine ⟨_, OpP.move (.t rfl) rfl, ?_⟩
      refine ⟨_, ⟨_, _, rfl, rfl, fun hg82 => OpP.fldPF G_api_Algebra.l3 (fun x => x.Macs) fd32_3 rfl (fun _ => rfl) (.t rfl) rfl⟩, ?_⟩
      refine ⟨_, ⟨_, _, rfl, rfl, fun hg83 => OpP.ldP ty29 (.o rfl (beq_iff_eq.2 hg83)) rfl⟩, ?_⟩
      refine ⟨_, ⟨_, _, rfl, rfl, fun hg84 => OpP.move (.t rfl) rfl⟩, ?_⟩
      refine ⟨_, ⟨_, _, rfl, rfl, fun hg85 => OpP.idx ty38 Tryd.underlying29 (.o rfl (beq_iff_eq.2 hg85)) (.o rfl (beq_iff_eq.2 hg85)) (by first | omega | (simp; omega) | (have := hg85; simp at this; omega)) (by first | omega | (simp; omega) | (have := hg85; simp at this; omega)) rfl⟩, ?_⟩
      refine ⟨_, ⟨_, _, rfl, rfl, fun hg86 => OpP.fldPF G_api_Mac.l1 (fun x => x.Message) fd38_1 rfl (fun _ => rfl) (.o rfl (beq_iff_eq.2 hg86)) rfl⟩, ?_⟩
      refine ⟨_, ⟨_, _, rfl, rfl, fun hg87 => OpP.ldP ty23 (.o rfl (beq_iff_eq.2 hg87)) rfl⟩, ?_⟩
      refine ⟨_, ⟨_, _, rfl, rfl, fun hg88 => OpP.fldPF G_api_Algebra.l3 (fun x => x.Macs) fd32_3 rfl (fun _ => rfl) (.t rfl) rfl⟩, ?_⟩
      refine ⟨_, ⟨_, _, rfl, rfl, fun hg89 => OpP.ldP ty29 (.o rfl (beq_iff_eq.2 hg89)) rfl⟩, ?_⟩
      refine ⟨_, ⟨_, _, rfl, rfl, fun hg90 => OpP.move (.t rfl) rfl⟩, ?_⟩
      refine ⟨_, ⟨_, _, rfl, rfl, fun hg91 => OpP.idx ty38 Tryd.underlying29 (.o rfl (beq_iff_eq.2 hg91)) (.o rfl (beq_iff_eq.2 hg91)) (by first | omega | (simp; omega) | (have := hg91; simp at this; omega)) (by first | omega | (simp; omega) | (have := hg91; simp at this; omega)) rfl⟩, ?_⟩
      refine ⟨_, ⟨_, _, rfl, rfl, fun hg92 => OpP.fldPF G_api_Mac.l1 (fun x => x.Message) fd38_1 rfl (fun _ => rfl) (.o rfl (beq_iff_eq.2 hg92)) rfl⟩, ?_⟩
      refine ⟨_, ⟨_, _, rfl, rfl, fun hg93 => OpP.ldP ty23 (.o rfl (beq_iff_eq.2 hg93)) rfl⟩, ?_⟩
      refine ⟨_, ⟨_, _, rfl, rfl, fun hg94 => OpP.call1 hG (Same_c _ _) (.cons (.o rfl (beq_iff_eq.2 hg94)) (.cons (.o rfl (beq_iff_eq.2 hg94)) .nil)) rfl⟩, ?_⟩
      refine ⟨_, ⟨_, _, rfl, rfl, fun hg95 => OpP.not (.o rfl (beq_iff_eq.2 hg95)) rfl⟩, ?_⟩
      refine ⟨_, OpP.pickOr (.t rfl) (fun hp => (.o rfl (beq_iff_eq.2 hp))) rfl, ?_⟩
      show wpB _ _ _ _ _ _ ((96, _) :: (95, _) :: (94, _) :: (93, _) :: (92, _) :: (91, _) :: (90, _) :: (89, _) :: (88, _) :: (87, _) :: (86, _) :: (85, _) :: (84, _) :: (83, _) :: (82, _) :: (81, _) :: (80, _) :: (79, _) :: (78, _) :: (77, _) :: (76, _) :: (75, _) :: (74, _) :: (73, _) :: (72, _) :: (71, _) :: (70, _) :: (69, _) :: (68, _) :: (67, _) :: (66, _) :: (65, _) :: (64, _) :: (63, _) :: (62, _) :: (61, _) :: (60, _) :: (59, _) :: (58, _) :: (57, _) :: (56, _) :: (55, _) :: (54, _) :: (53, _) :: _) _
      refine .nil ?_
      refine .cond (.t rfl) (fun hc96 => ?_) (fun hc96 => ?_)
      · refine .seq ?_
        refine .region rfl ?_
        refine .p (.assign .b ?_)
        refine .nil ?_
        refine .ret ?_
        refine ⟨_, .r1 rfl (.tmp rfl), ?_⟩
        exact absurd hc96 (by simp)
      · refine .skip ?_
        refine .lenLe 48 rfl fun hl48 => ?_
        refine .region rfl ?_
        refine .p (.move (.t rfl) (.p (.add (.t rfl) (.i rfl) (by first | omega | (simp; done) | (simp; omega) | (simp at *; omega)) (by first | omega | (simp; done) | (simp; omega) | (simp at *; omega)) (.p (.assign (.t rfl) ?_)))))
        refine .nil ?_
        refine ⟨k + 1, .cons rfl (.cons rfl (.cons rfl (.nil _))), rfl, ?_, by omega⟩
        omega
    · refine .exit ?_
      refine .seq ?_
      refine .seq ?_
      refine .region rfl ?_
      refine .p (.assign (.i rfl) ?_)
      refine .nil ?_
      refine .block ?_
      refine .loopR (α := Nat) [(2, _), (3, _)] (fun k R => (6, .v (k : Int)) :: R) (fun k => []) (fun k => k ≤ a.Boxes.length) (fun k => a.Boxes.length - k) (0) (.cons rfl (.cons rfl (.nil _))) ?_ (.cons rfl (.cons rfl (.cons rfl (.nil _)))) (rfl) fun k hF => ?_
      · simp
      refine .seq ?_
      refine .seq ?_
      refine .region rfl ?_
      refine .p (.move (.t rfl) (.p (.fldPF G_api_Algebra.l4 (fun x => x.Boxes) fd32_4 rfl (fun _ => rfl) (.t rfl) (.p (.ldP ty30 (.t rfl) (.p (.len Tryd.underlying30 (.t rfl) (.p (.lss (.t rfl) (.t rfl) ?_)))))))))
      refine .nil ?_
      refine .condP (.t rfl) (fun hc101 => ?_) (fun hc101 => ?_)
      · refine .skip ?_
        refine .seq ?_
        refine .block ?_
        refine .seq ?_
        refine .drawA [] [(10, (⟨G_api_Sealed, inferInstance, default⟩ : AT)), (11, (⟨G_api_Sealed, inferInstance, default⟩ : AT))] (by kernel_rfl) 14 [[], [(104, 0)], [], [(105, 1), (106, 2)], [(107, 3)], [], [(109, 5)], [], [(110, 6), (111, 7)], [(112, 8)], [], [], [(7, 10), (108, 4)], [(8, 11), (113, 9)]] [12, 13] rfl (by kernel_rfl) rfl (by kernel_rfl) (by decide) (by simp) (List.forall_mem_cons.2 ⟨fun o ho => by obtain rfl := Option.some.inj (show some _ = some o from ho); exact ⟨rfl, fun _ _ => OpH.alloc ty56 fun b => ⟨b, rfl, rfl⟩⟩, (List.forall_mem_cons.2 ⟨fun o ho => by obtain rfl := Option.some.inj (show some _ = some o from ho); exact ⟨rfl, fun _ _ => OpH.alloc ty56 fun b => ⟨b, rfl, rfl⟩⟩, (fun p hp => by cases hp)⟩)⟩) ?_
        refine ⟨_, fun H => OpP.fldPF G_api_Algebra.l4 (fun x => x.Boxes) fd32_4 rfl (fun _ => rfl) (.t rfl) rfl, ?_⟩
        refine ⟨_, fun H => OpP.ldP ty30 (.t rfl) rfl, ?_⟩
        refine ⟨_, fun H => OpP.move (.t rfl) rfl, ?_⟩
        refine ⟨_, fun H => OpP.idx ty56 Tryd.underlying30 (.t rfl) (.t rfl) (by first | omega | (simp; done) | (simp; omega) | (simp at *; omega)) (by first | omega | (simp; done) | (simp; omega) | (simp at *; omega)) rfl, ?_⟩
        refine ⟨_, fun H => OpP.ldP ty56 (.t rfl) rfl, ?_⟩
        refine ⟨_, fun H => OpP.fldPF G_api_Algebra.l4 (fun x => x.Boxes) fd32_4 rfl (fun _ => rfl) (.t rfl) rfl, ?_⟩
        refine ⟨_, fun H => OpP.ldP ty30 (.t rfl) rfl, ?_⟩
        refine ⟨_, fun H => OpP.move (.t rfl) rfl, ?_⟩
        refine ⟨_, fun H => OpP.idx ty56 Tryd.underlying30 (.t rfl) (.t rfl) (by first | omega | (simp; done) | (simp; omega) | (simp at *; omega)) (by first | omega | (simp; done) | (simp; omega) | (simp at *; omega)) rfl, ?_⟩
        refine ⟨_, fun H => OpP.ldP ty56 (.t rfl) rfl, ?_⟩
        refine .inl ?_
        refine .inl ?_
        refine .inl ?_
        refine .inl ?_
        refine ⟨rfl, fun ws11 => ?_⟩
        refine ⟨⟨([_, _], fun k => List.getD [] k (true, .none_)), rfl⟩, ?_⟩
        refine OpH.stW ty56 (.t rfl) (.t rfl) .z ?_
        refine ⟨⟨([_, _], fun k => List.getD [] k (true, .none_)), rfl⟩, ?_⟩
        refine OpH.stW ty56 (.t rfl) (.t rfl) (.s .z) ?_
        refine ⟨⟨([_, _], fun k => List.getD [] k (true, .none_)), rfl⟩, ?_⟩
        show wpB _ _ _ _ _ _ ((8, _) :: (7, _) :: (113, _) :: (112, _) :: (111, _) :: (110, _) :: (109, _) :: (108, _) :: (107, _) :: (106, _) :: (105, _) :: (104, _) :: _) _
        refine .nil ?_
        refine .seq ?_
        refine .region rfl ?_
        refine .p (.fldW G_api_Sealed.l0 fd56_0 rfl (.t rfl) (.p (.ldF (fun x => x.Key) ty28 (.t rfl) .z (fun _ => rfl) (.p (.fldW G_api_Sealed.l0 fd56_0 rfl (.t rfl) (.p (.ldF (fun x => x.Key) ty28 (.t rfl) (.s .z) (fun _ => rfl) (.p (.neqA8 Tryd.underlying28 sz5 Tryd.underlying5 gd28 (.t rfl) (.t rfl) (.p (.move (.t rfl) ?_)))))))))))
        refine .go 119 rfl (.t rfl) (fun hg120 => .fldW G_api_Sealed.l1 fd56_1 rfl (.t rfl) rfl) ?_
        refine .go 119 rfl (.t rfl) (fun hg121 => .ldF (fun x => x.Nonce) ty3 (.o rfl (beq_iff_eq.2 hg121)) .z (fun _ => rfl) rfl) ?_
        refine .go 119 rfl (.t rfl) (fun hg122 => .fldW G_api_Sealed.l1 fd56_1 rfl (.t rfl) rfl) ?_
        refine .go 119 rfl (.t rfl) (fun hg123 => .ldF (fun x => x.Nonce) ty3 (.o rfl (beq_iff_eq.2 hg123)) (.s .z) (fun _ => rfl) rfl) ?_
        refine .go 119 rfl (.t rfl) (fun hg124 => .neqI (.o rfl (beq_iff_eq.2 hg124)) (.o rfl (beq_iff_eq.2 hg124)) rfl) ?_
        refine .p (.pickOr (.t rfl) (fun hp => (.o rfl (beq_iff_eq.2 hp))) (.p (.move (.t rfl) ?_)))
        refine .go 126 rfl (.t rfl) (fun hg127 => .fldW G_api_Sealed.l2 fd56_2 rfl (.t rfl) rfl) ?_
        refine .go 126 rfl (.t rfl) (fun hg128 => .ldF (fun x => x.Plain) ty23 (.o rfl (beq_iff_eq.2 hg128)) .z (fun _ => rfl) rfl) ?_
        refine .go 126 rfl (.t rfl) (fun hg129 => .fldW G_api_Sealed.l2 fd56_2 rfl (.t rfl) rfl) ?_
        refine .go 126 rfl (.t rfl) (fun hg130 => .ldF (fun x => x.Plain) ty23 (.o rfl (beq_iff_eq.2 hg130)) (.s .z) (fun _ => rfl) rfl) ?_
        refine .go 126 rfl (.t rfl) (fun hg131 => .call1 hG (Same_c _ _) (.cons (.o rfl (beq_iff_eq.2 hg131)) (.cons (.o rfl (beq_iff_eq.2 hg131)) .nil)) rfl) ?_
        refine .go 126 rfl (.t rfl) (fun hg132 => .not (.o rfl (beq_iff_eq.2 hg132)) rfl) ?_
        refine .p (.pickOr (.t rfl) (fun hp => (.o rfl (beq_iff_eq.2 hp))) (.p (.move (.t rfl) ?_)))
        refine .go 134 rfl (.t rfl) (fun hg135 => .fldW G_api_Sealed.l3 fd56_3 rfl (.t rfl) rfl) ?_
        refine .go 134 rfl (.t rfl) (fun hg136 => .ldF (fun x => x.Box) ty23 (.o rfl (beq_iff_eq.2 hg136)) .z (fun _ => rfl) rfl) ?_
        refine .go 134 rfl (.t rfl) (fun hg137 => .fldW G_api_Sealed.l3 fd56_3 rfl (.t rfl) rfl) ?_
        refine .go 134 rfl (.t rfl) (fun hg138 => .ldF (fun x => x.Box) ty23 (.o rfl (beq_iff_eq.2 hg138)) (.s .z) (fun _ => rfl) rfl) ?_
        refine .go 134 rfl (.t rfl) (fun hg139 => .call1 hG (Same_c _ _) (.cons (.o rfl (beq_iff_eq.2 hg139)) (.cons (.o rfl (beq_iff_eq.2 hg139)) .nil)) rfl) ?_
        refine .go 134 rfl (.t rfl) (fun hg140 => .not (.o rfl (beq_iff_eq.2 hg140)) rfl) ?_
        refine .p (.pickOr (.t rfl) (fun hp => (.o rfl (beq_iff_eq.2 hp))) ?_)
        refine .drop ?_
        refine .drop ?_
        refine .nil ?_
        refine .cond (.t rfl) (fun hc141 => ?_) (fun hc141 => ?_)
        · refine .seq ?_
          refine .region rfl ?_
          refine .p (.assign .b ?_)
          refine .nil ?_
          refine .ret ?_
          refine ⟨_, .r1 rfl (.tmp rfl), ?_⟩
          exact absurd hc141 (by simp)
        · refine .skip ?_
          refine .lenLe 99 rfl fun hl99 => ?_
          refine .region rfl ?_
          refine .p (.move (.t rfl) (.p (.add (.t rfl) (.i rfl) (by first | omega | (simp; done) | (simp; omega) | (simp at *; omega)) (by first | omega | (simp; done) | (simp; omega) | (simp at *; omega)) (.p (.assign (.t rfl) ?_)))))
          refine .nil ?_
          refine ⟨k + 1, .cons rfl (.cons rfl (.cons rfl (.nil _))), rfl, ?_, by omega⟩
          omega
      · refine .exit ?_
        refine .seq ?_
        refine .region rfl ?_
        refine .p (.assign .b ?_)
        refine .nil ?_
        refine .ret ?_
        refine ⟨_, .r1 rfl (.tmp rfl), ?_⟩
        rfl
end Go.Proofs.YtiekhjbhlekaeaaDoor
