/- Plain Lean over any program, and walks of this seat's functions: contracts, each proved once (part 3). -/
import Derived.Test.YtdhfibhjfahdcaaDoorZ2
import Derived.Shelf.Bytes.SlJoin
import Derived.ProofKit
import Derived.OpenShut
import Derived.ShutString
import Derived.ChangeOld
import Derived.Below
import Derived.LaidLaws
import Derived.Handed
import Derived.DataReads
import Derived.Test.YtdhfibhjfahdcaaDoorRows
import Derived.Test.YtdhfibhjfahdcaaDoorTie
import Derived.Test.YtdhfibhjfahdcaaDoorCards
import Derived.SevenTiedAt
set_option maxRecDepth 1000000
set_option linter.unusedVariables false
set_option linter.unusedSimpArgs false
namespace Go.Proofs.YtdhfibhjfahdcaaDoor
open Go.Fl Go.Ab Go.Mac Go.Sha
theorem sameAlg_c (a : Alg) : FunA gl Tryd.prog 11 [.v a, .v a] (fun r => r = .v true) := by
  refine FunA.intro Tryd.func11 rfl (by kernel_rfl) 142 rfl rfl _ rfl fun C hC hG => ?_
  refine .seq ?_
  refine .region rfl ?_
  refine .h (.box (.t rfl) fun b2 => .h (.box (.t rfl) fun b3 => .p (.assign .b ?_)))
  refine .nil ?_
  refine .seq ?_
  refine .seq ?_
  refine .frzOb hC .z ?_
  refine .asP 3 rfl .z ?_
  refine .frzOb hC (.s .z) ?_
  refine .asP 2 rfl (.s .z) ?_
  refine .drop ?_
  refine .drop ?_
  refine .region rfl ?_
  refine .p (.fldPF G_api_Algebra.l0 (fun x => x.Free) fd32_0 rfl (fun _ => rfl) (.t rfl) (.p (.ldP ty4 (.t rfl) (.p (.fldPF G_api_Algebra.l0 (fun x => x.Free) fd32_0 rfl (fun _ => rfl) (.t rfl) (.p (.ldP ty4 (.t rfl) (.p (.neqBl Tryd.underlying4 (.t rfl) (.t rfl) (.p (.move (.t rfl) ?_)))))))))))
  refine .go 14 rfl (.t rfl) (fun hg15 => .fldPF G_api_Algebra.l1 (fun x => x.Seed) fd32_1 rfl (fun _ => rfl) (.t rfl) rfl) ?_
  refine .go 14 rfl (.t rfl) (fun hg16 => .ldP ty28 (.o rfl (beq_iff_eq.2 hg16)) rfl) ?_
  refine .go 14 rfl (.t rfl) (fun hg17 => .fldPF G_api_Algebra.l1 (fun x => x.Seed) fd32_1 rfl (fun _ => rfl) (.t rfl) rfl) ?_
  refine .go 14 rfl (.t rfl) (fun hg18 => .ldP ty28 (.o rfl (beq_iff_eq.2 hg18)) rfl) ?_
  refine .go 14 rfl (.t rfl) (fun hg19 => .neqA8 Tryd.underlying28 sz5 Tryd.underlying5 gd28 (.o rfl (beq_iff_eq.2 hg19)) (.o rfl (beq_iff_eq.2 hg19)) rfl) ?_
  refine .p (.pickOr (.t rfl) (fun hp => (.o rfl (beq_iff_eq.2 hp))) (.p (.move (.t rfl) ?_)))
  refine .go 21 rfl (.t rfl) (fun hg22 => .fldPF G_api_Algebra.l2 (fun x => x.Fresh) fd32_2 rfl (fun _ => rfl) (.t rfl) rfl) ?_
  refine .go 21 rfl (.t rfl) (fun hg23 => .ldP ty3 (.o rfl (beq_iff_eq.2 hg23)) rfl) ?_
  refine .go 21 rfl (.t rfl) (fun hg24 => .fldPF G_api_Algebra.l2 (fun x => x.Fresh) fd32_2 rfl (fun _ => rfl) (.t rfl) rfl) ?_
  refine .go 21 rfl (.t rfl) (fun hg25 => .ldP ty3 (.o rfl (beq_iff_eq.2 hg25)) rfl) ?_
  refine .go 21 rfl (.t rfl) (fun hg26 => .neqI (.o rfl (beq_iff_eq.2 hg26)) (.o rfl (beq_iff_eq.2 hg26)) rfl) ?_
  refine .p (.pickOr (.t rfl) (fun hp => (.o rfl (beq_iff_eq.2 hp))) (.p (.move (.t rfl) ?_)))
  refine .go 28 rfl (.t rfl) (fun hg29 => .fldPF G_api_Algebra.l3 (fun x => x.Macs) fd32_3 rfl (fun _ => rfl) (.t rfl) rfl) ?_
  refine .go 28 rfl (.t rfl) (fun hg30 => .ldP ty29 (.o rfl (beq_iff_eq.2 hg30)) rfl) ?_
  refine .go 28 rfl (.t rfl) (fun hg31 => .len Tryd.underlying29 (.o rfl (beq_iff_eq.2 hg31)) rfl) ?_
  refine .go 28 rfl (.t rfl) (fun hg32 => .fldPF G_api_Algebra.l3 (fun x => x.Macs) fd32_3 rfl (fun _ => rfl) (.t rfl) rfl) ?_
  refine .go 28 rfl (.t rfl) (fun hg33 => .ldP ty29 (.o rfl (beq_iff_eq.2 hg33)) rfl) ?_
  refine .go 28 rfl (.t rfl) (fun hg34 => .len Tryd.underlying29 (.o rfl (beq_iff_eq.2 hg34)) rfl) ?_
  refine .go 28 rfl (.t rfl) (fun hg35 => .neqI (.o rfl (beq_iff_eq.2 hg35)) (.o rfl (beq_iff_eq.2 hg35)) rfl) ?_
  refine .p (.pickOr (.t rfl) (fun hp => (.o rfl (beq_iff_eq.2 hp))) (.p (.move (.t rfl) ?_)))
  refine .go 37 rfl (.t rfl) (fun hg38 => .fldPF G_api_Algebra.l4 (fun x => x.Boxes) fd32_4 rfl (fun _ => rfl) (.t rfl) rfl) ?_
  refine .go 37 rfl (.t rfl) (fun hg39 => .ldP ty30 (.o rfl (beq_iff_eq.2 hg39)) rfl) ?_
  refine .go 37 rfl (.t rfl) (fun hg40 => .len Tryd.underlying30 (.o rfl (beq_iff_eq.2 hg40)) rfl) ?_
  refine .go 37 rfl (.t rfl) (fun hg41 => .fldPF G_api_Algebra.l4 (fun x => x.Boxes) fd32_4 rfl (fun _ => rfl) (.t rfl) rfl) ?_
  refine .go 37 rfl (.t rfl) (fun hg42 => .ldP ty30 (.o rfl (beq_iff_eq.2 hg42)) rfl) ?_
  refine .go 37 rfl (.t rfl) (fun hg43 => .len Tryd.underlying30 (.o rfl (beq_iff_eq.2 hg43)) rfl) ?_
  refine .go 37 rfl (.t rfl) (fun hg44 => .neqI (.o rfl (beq_iff_eq.2 hg44)) (.o rfl (beq_iff_eq.2 hg44)) rfl) ?_
  refine .p (.pickOr (.t rfl) (fun hp => (.o rfl (beq_iff_eq.2 hp))) ?_)
  refine .nil ?_
  refine .cond (.t rfl) (fun hc45 => ?_) (fun hc45 => ?_)
  · refine .seq ?_
    refine .region rfl ?_
    refine .p (.assign .b ?_)
    refine .nil ?_
    refine .ret ?_
    refine ⟨_, .r1 rfl (.tmp rfl), ?_⟩
    exact absurd hc45 (by simp)
  · refine .skip ?_
    refine .seq ?_
    refine .seq ?_
    refine .region rfl ?_
    refine .p (.assign (.i rfl) ?_)
    refine .nil ?_
    refine .block ?_
    refine .loopR (α := Nat) [(2, _), (3, _)] (fun k R => (5, .v (k : Int)) :: R) (fun k => []) (fun k => k ≤ a.Macs.length) (fun k => a.Macs.length - k) (0) (.cons rfl (.cons rfl (.nil _))) ?_ (.cons rfl (.cons rfl (.cons rfl (.nil _)))) (rfl) fun k hF => ?_
    · simp
    refine .seq ?_
    refine .seq ?_
    refine .region rfl ?_
    refine .p (.move (.t rfl) (.p (.fldPF G_api_Algebra.l3 (fun x => x.Macs) fd32_3 rfl (fun _ => rfl) (.t rfl) (.p (.ldP ty29 (.t rfl) (.p (.len Tryd.underlying29 (.t rfl) (.p (.lss (.t rfl) (.t rfl) ?_)))))))))
    refine .nil ?_
    refine .condP (.t rfl) (fun hc50 => ?_) (fun hc50 => ?_)
    · refine .skip ?_
      refine .seq ?_
      refine .block ?_
      refine .seq ?_
      refine .lenLe 48 rfl fun hl48 => ?_
      refine .draw (by kernel_rfl) 44 [[], [(53, 0)], [], [(54, 1), (55, 2)], [(56, 3)], [(57, 4)], [], [(59, 6)], [], [(60, 7), (61, 8)], [(62, 9)], [(63, 10)], [(58, 5), (64, 11)], [(65, 12)], [], [(67, 14)], [], [(68, 15), (69, 16)], [(70, 17)], [(71, 18)], [], [(73, 20)], [], [(74, 21), (75, 22)], [(76, 23)], [(77, 24)], [(72, 19), (78, 25)], [(66, 13), (79, 26)], [(80, 27)], [], [(82, 29)], [], [(83, 30), (84, 31)], [(85, 32)], [(86, 33)], [], [(88, 35)], [], [(89, 36), (90, 37)], [(91, 38)], [(92, 39)], [(87, 34), (93, 40)], [(94, 41)], [(81, 28), (95, 42)]] rfl (by kernel_rfl) rfl ?_
      refine ⟨_, OpP.fldPF G_api_Algebra.l3 (fun x => x.Macs) fd32_3 rfl (fun _ => rfl) (.t rfl) rfl, ?_⟩
      refine ⟨_, OpP.ldP ty29 (.t rfl) rfl, ?_⟩
      refine ⟨_, OpP.move (.t rfl) rfl, ?_⟩
      refine ⟨_, OpP.idx ty53 Tryd.underlying29 (.t rfl) (.t rfl) (by first | omega | (simp; done) | (simp; omega) | (simp at *; omega)) (by first | omega | (simp; done) | (simp; omega) | (simp at *; omega)) rfl, ?_⟩
      refine ⟨_, OpP.fldPF G_api_Mac.l0 (fun x => x.Key) fd53_0 rfl (fun _ => rfl) (.t rfl) rfl, ?_⟩
      refine ⟨_, OpP.ldP ty28 (.t rfl) rfl, ?_⟩
      refine ⟨_, OpP.fldPF G_api_Algebra.l3 (fun x => x.Macs) fd32_3 rfl (fun _ => rfl) (.t rfl) rfl, ?_⟩
      refine ⟨_, OpP.ldP ty29 (.t rfl) rfl, ?_⟩
      refine ⟨_, OpP.move (.t rfl) rfl, ?_⟩
      refine ⟨_, OpP.idx ty53 Tryd.underlying29 (.t rfl) (.t rfl) (by first | omega | (simp; done) | (simp; omega) | (simp at *; omega)) (by first | omega | (simp; done) | (simp; omega) | (simp at *; omega)) rfl, ?_⟩
      refine ⟨_, OpP.fldPF G_api_Mac.l0 (fun x => x.Key) fd53_0 rfl (fun _ => rfl) (.t rfl) rfl, ?_⟩
      refine ⟨_, OpP.ldP ty28 (.t rfl) rfl, ?_⟩
      refine ⟨_, OpP.neqA8 Tryd.underlying28 sz5 Tryd.underlying5 gd28 (.t rfl) (.t rfl) rfl, ?_⟩
      refine ⟨_, OpP.move (.t rfl) rfl, ?_⟩
      refine ⟨_, ⟨_, _, rfl, rfl, fun hg67 => OpP.fldPF G_api_Algebra.l3 (fun x => x.Macs) fd32_3 rfl (fun _ => rfl) (.t rfl) rfl⟩, ?_⟩
      refine ⟨_, ⟨_, _, rfl, rfl, fun hg68 => OpP.ldP ty29 (.o rfl (beq_iff_eq.2 hg68)) rfl⟩, ?_⟩
      refine ⟨_, ⟨_, _, rfl, rfl, fun hg69 => OpP.move (.t rfl) rfl⟩, ?_⟩
      refine ⟨_, ⟨_, _, rfl, rfl, fun hg70 => OpP.idx ty53 Tryd.underlying29 (.o rfl (beq_iff_eq.2 hg70)) (.o rfl (beq_iff_eq.2 hg70)) (by first | omega | (simp; omega) | (have := hg70; simp at this; omega)) (by first | omega | (simp; omega) | (have := hg70; simp at this; omega)) rfl⟩, ?_⟩
      refine ⟨_, ⟨_, _, rfl, rfl, fun hg71 => OpP.fldPF G_api_Mac.l2 (fun x => x.Tag) fd53_2 rfl (fun _ => rfl) (.o rfl (beq_iff_eq.2 hg71)) rfl⟩, ?_⟩
      refine ⟨_, ⟨_, _, rfl, rfl, fun hg72 => OpP.ldP ty28 (.o rfl (beq_iff_eq.2 hg72)) rfl⟩, ?_⟩
      refine ⟨_, ⟨_, _, rfl, rfl, fun hg73 => OpP.fldPF G_api_Algebra.l3 (fun x => x.Macs) fd32_3 rfl (fun _ => rfl) (.t rfl) rfl⟩, ?_⟩
      refine ⟨_, ⟨_, _, rfl, rfl, fun hg74 => OpP.ldP ty29 (.o rfl (beq_iff_eq.2 hg74)) rfl⟩, ?_⟩
      refine ⟨_, ⟨_, _, rfl, rfl, fun hg75 => OpP.move (.t rfl) rfl⟩, ?_⟩
      refine ⟨_, ⟨_, _, rfl, rfl, fun hg76 => OpP.idx ty53 Tryd.underlying29 (.o rfl (beq_iff_eq.2 hg76)) (.o rfl (beq_iff_eq.2 hg76)) (by first | omega | (simp; omega) | (have := hg76; simp at this; omega)) (by first | omega | (simp; omega) | (have := hg76; simp at this; omega)) rfl⟩, ?_⟩
      refine ⟨_, ⟨_, _, rfl, rfl, fun hg77 => OpP.fldPF G_api_Mac.l2 (fun x => x.Tag) fd53_2 rfl (fun _ => rfl) (.o rfl (beq_iff_eq.2 hg77)) rfl⟩, ?_⟩
      refine ⟨_, ⟨_, _, rfl, rfl, fun hg78 => OpP.ldP ty28 (.o rfl (beq_iff_eq.2 hg78)) rfl⟩, ?_⟩
      refine ⟨_, ⟨_, _, rfl, rfl, fun hg79 => OpP.neqA8 Tryd.underlying28 sz5 Tryd.underlying5 gd28 (.o rfl (beq_iff_eq.2 hg79)) (.o rfl (beq_iff_eq.2 hg79)) rfl⟩, ?_⟩
      refine ⟨_, OpP.pickOr (.t rfl) (fun hp => (.o rfl (beq_iff_eq.2 hp))) rfl, ?_⟩
      refine ⟨_, OpP.move (.t rfl) rfl, ?_⟩
      refine ⟨_, ⟨_, _, rfl, rfl, fun hg82 => OpP.fldPF G_api_Algebra.l3 (fun x => x.Macs) fd32_3 rfl (fun _ => rfl) (.t rfl) rfl⟩, ?_⟩
      refine ⟨_, ⟨_, _, rfl, rfl, fun hg83 => OpP.ldP ty29 (.o rfl (beq_iff_eq.2 hg83)) rfl⟩, ?_⟩
      refine ⟨_, ⟨_, _, rfl, rfl, fun hg84 => OpP.move (.t rfl) rfl⟩, ?_⟩
      refine ⟨_, ⟨_, _, rfl, rfl, fun hg85 => OpP.idx ty53 Tryd.underlying29 (.o rfl (beq_iff_eq.2 hg85)) (.o rfl (beq_iff_eq.2 hg85)) (by first | omega | (simp; omega) | (have := hg85; simp at this; omega)) (by first | omega | (simp; omega) | (have := hg85; simp at this; omega)) rfl⟩, ?_⟩
      refine ⟨_, ⟨_, _, rfl, rfl, fun hg86 => OpP.fldPF G_api_Mac.l1 (fun x => x.Message) fd53_1 rfl (fun _ => rfl) (.o rfl (beq_iff_eq.2 hg86)) rfl⟩, ?_⟩
      refine ⟨_, ⟨_, _, rfl, rfl, fun hg87 => OpP.ldP ty23 (.o rfl (beq_iff_eq.2 hg87)) rfl⟩, ?_⟩
      refine ⟨_, ⟨_, _, rfl, rfl, fun hg88 => OpP.fldPF G_api_Algebra.l3 (fun x => x.Macs) fd32_3 rfl (fun _ => rfl) (.t rfl) rfl⟩, ?_⟩
      refine ⟨_, ⟨_, _, rfl, rfl, fun hg89 => OpP.ldP ty29 (.o rfl (beq_iff_eq.2 hg89)) rfl⟩, ?_⟩
      refine ⟨_, ⟨_, _, rfl, rfl, fun hg90 => OpP.move (.t rfl) rfl⟩, ?_⟩
      refine ⟨_, ⟨_, _, rfl, rfl, fun hg91 => OpP.idx ty53 Tryd.underlying29 (.o rfl (beq_iff_eq.2 hg91)) (.o rfl (beq_iff_eq.2 hg91)) (by first | omega | (simp; omega) | (have := hg91; simp at this; omega)) (by first | omega | (simp; omega) | (have := hg91; simp at this; omega)) rfl⟩, ?_⟩
      refine ⟨_, ⟨_, _, rfl, rfl, fun hg92 => OpP.fldPF G_api_Mac.l1 (fun x => x.Message) fd53_1 rfl (fun _ => rfl) (.o rfl (beq_iff_eq.2 hg92)) rfl⟩, ?_⟩
      refine ⟨_, ⟨_, _, rfl, rfl, fun hg93 => OpP.ldP ty23 (.o rfl (beq_iff_eq.2 hg93)) rfl⟩, ?_⟩
      refine ⟨_, ⟨_, _, rfl, rfl, fun hg94 => OpP.call1 hG (Same_c _ _) (.cons (.o rfl (beq_iff_eq.2 hg94)) (.cons (.o rfl (beq_iff_eq.2 hg94)) .nil)) rfl⟩, ?_⟩
      refine ⟨_, ⟨_, _, rfl, rfl, fun hg95 => OpP.not (.o rfl (beq_iff_eq.2 hg95)) rfl⟩, ?_⟩
      refine ⟨_, OpP.pickOr (.t rfl) (fun hp => (.o rfl (beq_iff_eq.2 hp))) rfl, ?_⟩
      show wpB _ _ _ _ _ _ ((96, _) :: (95, _) :: (94, _) :: (93, _) :: (92, _) :: (91, _) :: (90, _) :: (89, _) :: (88, _) :: (87, _) :: (86, _) :: (85, _) :: (84, _) :: (83, _) :: (82, _) :: (81, _) :: (80, _) :: (79, _) :: (78, _) :: (77, _) :: (76, _) :: (75, _) :: (74, _) :: (73, _) :: (72, _) :: (71, _) :: (70, _) :: (69, _) :: (68, _) :: (67, _) :: (66, _) :: (65, _) :: (64, _) :: (63, _) :: (62, _) :: (61, _) :: (60, _) :: (59, _) :: (58, _) :: (57, _) :: (56, _) :: (55, _) :: (54, _) :: (53, _) :: _) _
      refine .nil ?_
      refine .cond (.t rfl) (fun hc96 => ?_) (fun hc96 => ?_)
      · refine .seq ?_
        refine .region rfl ?_
        refine .p (.assign .b ?_)
        refine .nil ?_
        refine .ret ?_
        refine ⟨_, .r1 rfl (.tmp rfl), ?_⟩
        exact absurd hc96 (by simp)
      · refine .skip ?_
        refine .lenLe 48 rfl fun hl48 => ?_
        refine .region rfl ?_
        refine .p (.move (.t rfl) (.p (.add (.t rfl) (.i rfl) (by first | omega | (simp; done) | (simp; omega) | (simp at *; omega)) (by first | omega | (simp; done) | (simp; omega) | (simp at *; omega)) (.p (.assign (.t rfl) ?_)))))
        refine .nil ?_
        refine ⟨k + 1, .cons rfl (.cons rfl (.cons rfl (.nil _))), rfl, ?_, by omega⟩
        omega
    · refine .exit ?_
      refine .seq ?_
      refine .seq ?_
      refine .region rfl ?_
      refine .p (.assign (.i rfl) ?_)
      refine .nil ?_
      refine .block ?_
      refine .loopR (α := Nat) [(2, _), (3, _)] (fun k R => (6, .v (k : Int)) :: R) (fun k => []) (fun k => k ≤ a.Boxes.length) (fun k => a.Boxes.length - k) (0) (.cons rfl (.cons rfl (.nil _))) ?_ (.cons rfl (.cons rfl (.cons rfl (.nil _)))) (rfl) fun k hF => ?_
      · simp
      refine .seq ?_
      refine .seq ?_
      refine .region rfl ?_
      refine .p (.move (.t rfl) (.p (.fldPF G_api_Algebra.l4 (fun x => x.Boxes) fd32_4 rfl (fun _ => rfl) (.t rfl) (.p (.ldP ty30 (.t rfl) (.p (.len Tryd.underlying30 (.t rfl) (.p (.lss (.t rfl) (.t rfl) ?_)))))))))
      refine .nil ?_
      refine .condP (.t rfl) (fun hc101 => ?_) (fun hc101 => ?_)
      · refine .skip ?_
        refine .seq ?_
        refine .block ?_
        refine .seq ?_
        refine .drawA [] [(10, (⟨G_api_Sealed, inferInstance, default⟩ : AT)), (11, (⟨G_api_Sealed, inferInstance, default⟩ : AT))] (by kernel_rfl) 14 [[], [(104, 0)], [], [(105, 1), (106, 2)], [(107, 3)], [], [(109, 5)], [], [(110, 6), (111, 7)], [(112, 8)], [], [], [(7, 10), (108, 4)], [(8, 11), (113, 9)]] [12, 13] rfl (by kernel_rfl) rfl (by kernel_rfl) (by decide) (by simp) (List.forall_mem_cons.2 ⟨fun o ho => by obtain rfl := Option.some.inj (show some _ = some o from ho); exact ⟨rfl, fun _ _ => OpH.alloc ty55 fun b => ⟨b, rfl, rfl⟩⟩, (List.forall_mem_cons.2 ⟨fun o ho => by obtain rfl := Option.some.inj (show some _ = some o from ho); exact ⟨rfl, fun _ _ => OpH.alloc ty55 fun b => ⟨b, rfl, rfl⟩⟩, (fun p hp => by cases hp)⟩)⟩) ?_
        refine ⟨_, fun H => OpP.fldPF G_api_Algebra.l4 (fun x => x.Boxes) fd32_4 rfl (fun _ => rfl) (.t rfl) rfl, ?_⟩
        refine ⟨_, fun H => OpP.ldP ty30 (.t rfl) rfl, ?_⟩
        refine ⟨_, fun H => OpP.move (.t rfl) rfl, ?_⟩
        refine ⟨_, fun H => OpP.idx ty55 Tryd.underlying30 (.t rfl) (.t rfl) (by first | omega | (simp; done) | (simp; omega) | (simp at *; omega)) (by first | omega | (simp; done) | (simp; omega) | (simp at *; omega)) rfl, ?_⟩
        refine ⟨_, fun H => OpP.ldP ty55 (.t rfl) rfl, ?_⟩
        refine ⟨_, fun H => OpP.fldPF G_api_Algebra.l4 (fun x => x.Boxes) fd32_4 rfl (fun _ => rfl) (.t rfl) rfl, ?_⟩
        refine ⟨_, fun H => OpP.ldP ty30 (.t rfl) rfl, ?_⟩
        refine ⟨_, fun H => OpP.move (.t rfl) rfl, ?_⟩
        refine ⟨_, fun H => OpP.idx ty55 Tryd.underlying30 (.t rfl) (.t rfl) (by first | omega | (simp; done) | (simp; omega) | (simp at *; omega)) (by first | omega | (simp; done) | (simp; omega) | (simp at *; omega)) rfl, ?_⟩
        refine ⟨_, fun H => OpP.ldP ty55 (.t rfl) rfl, ?_⟩
        refine .inl ?_
        refine .inl ?_
        refine .inl ?_
        refine .inl ?_
        refine ⟨rfl, fun ws11 => ?_⟩
        refine ⟨⟨([_, _], fun k => List.getD [] k (true, .none_)), rfl⟩, ?_⟩
        refine OpH.stW ty55 (.t rfl) (.t rfl) .z ?_
        refine ⟨⟨([_, _], fun k => List.getD [] k (true, .none_)), rfl⟩, ?_⟩
        refine OpH.stW ty55 (.t rfl) (.t rfl) (.s .z) ?_
        refine ⟨⟨([_, _], fun k => List.getD [] k (true, .none_)), rfl⟩, ?_⟩
        show wpB _ _ _ _ _ _ ((8, _) :: (7, _) :: (113, _) :: (112, _) :: (111, _) :: (110, _) :: (109, _) :: (108, _) :: (107, _) :: (106, _) :: (105, _) :: (104, _) :: _) _
        refine .nil ?_
        refine .seq ?_
        refine .region rfl ?_
        refine .p (.fldW G_api_Sealed.l0 fd55_0 rfl (.t rfl) (.p (.ldF (fun x => x.Key) ty28 (.t rfl) .z (fun _ => rfl) (.p (.fldW G_api_Sealed.l0 fd55_0 rfl (.t rfl) (.p (.ldF (fun x => x.Key) ty28 (.t rfl) (.s .z) (fun _ => rfl) (.p (.neqA8 Tryd.underlying28 sz5 Tryd.underlying5 gd28 (.t rfl) (.t rfl) (.p (.move (.t rfl) ?_)))))))))))
        refine .go 119 rfl (.t rfl) (fun hg120 => .fldW G_api_Sealed.l1 fd55_1 rfl (.t rfl) rfl) ?_
        refine .go 119 rfl (.t rfl) (fun hg121 => .ldF (fun x => x.Nonce) ty3 (.o rfl (beq_iff_eq.2 hg121)) .z (fun _ => rfl) rfl) ?_
        refine .go 119 rfl (.t rfl) (fun hg122 => .fldW G_api_Sealed.l1 fd55_1 rfl (.t rfl) rfl) ?_
        refine .go 119 rfl (.t rfl) (fun hg123 => .ldF (fun x => x.Nonce) ty3 (.o rfl (beq_iff_eq.2 hg123)) (.s .z) (fun _ => rfl) rfl) ?_
        refine .go 119 rfl (.t rfl) (fun hg124 => .neqI (.o rfl (beq_iff_eq.2 hg124)) (.o rfl (beq_iff_eq.2 hg124)) rfl) ?_
        refine .p (.pickOr (.t rfl) (fun hp => (.o rfl (beq_iff_eq.2 hp))) (.p (.move (.t rfl) ?_)))
        refine .go 126 rfl (.t rfl) (fun hg127 => .fldW G_api_Sealed.l2 fd55_2 rfl (.t rfl) rfl) ?_
        refine .go 126 rfl (.t rfl) (fun hg128 => .ldF (fun x => x.Plain) ty23 (.o rfl (beq_iff_eq.2 hg128)) .z (fun _ => rfl) rfl) ?_
        refine .go 126 rfl (.t rfl) (fun hg129 => .fldW G_api_Sealed.l2 fd55_2 rfl (.t rfl) rfl) ?_
        refine .go 126 rfl (.t rfl) (fun hg130 => .ldF (fun x => x.Plain) ty23 (.o rfl (beq_iff_eq.2 hg130)) (.s .z) (fun _ => rfl) rfl) ?_
        refine .go 126 rfl (.t rfl) (fun hg131 => .call1 hG (Same_c _ _) (.cons (.o rfl (beq_iff_eq.2 hg131)) (.cons (.o rfl (beq_iff_eq.2 hg131)) .nil)) rfl) ?_
        refine .go 126 rfl (.t rfl) (fun hg132 => .not (.o rfl (beq_iff_eq.2 hg132)) rfl) ?_
        refine .p (.pickOr (.t rfl) (fun hp => (.o rfl (beq_iff_eq.2 hp))) (.p (.move (.t rfl) ?_)))
        refine .go 134 rfl (.t rfl) (fun hg135 => .fldW G_api_Sealed.l3 fd55_3 rfl (.t rfl) rfl) ?_
        refine .go 134 rfl (.t rfl) (fun hg136 => .ldF (fun x => x.Box) ty23 (.o rfl (beq_iff_eq.2 hg136)) .z (fun _ => rfl) rfl) ?_
        refine .go 134 rfl (.t rfl) (fun hg137 => .fldW G_api_Sealed.l3 fd55_3 rfl (.t rfl) rfl) ?_
        refine .go 134 rfl (.t rfl) (fun hg138 => .ldF (fun x => x.Box) ty23 (.o rfl (beq_iff_eq.2 hg138)) (.s .z) (fun _ => rfl) rfl) ?_
        refine .go 134 rfl (.t rfl) (fun hg139 => .call1 hG (Same_c _ _) (.cons (.o rfl (beq_iff_eq.2 hg139)) (.cons (.o rfl (beq_iff_eq.2 hg139)) .nil)) rfl) ?_
        refine .go 134 rfl (.t rfl) (fun hg140 => .not (.o rfl (beq_iff_eq.2 hg140)) rfl) ?_
        refine .p (.pickOr (.t rfl) (fun hp => (.o rfl (beq_iff_eq.2 hp))) ?_)
        refine .drop ?_
        refine .drop ?_
        refine .nil ?_
        refine .cond (.t rfl) (fun hc141 => ?_) (fun hc141 => ?_)
        · refine .seq ?_
          refine .region rfl ?_
          refine .p (.assign .b ?_)
          refine .nil ?_
          refine .ret ?_
          refine ⟨_, .r1 rfl (.tmp rfl), ?_⟩
          exact absurd hc141 (by simp)
        · refine .skip ?_
          refine .lenLe 99 rfl fun hl99 => ?_
          refine .region rfl ?_
          refine .p (.move (.t rfl) (.p (.add (.t rfl) (.i rfl) (by first | omega | (simp; done) | (simp; omega) | (simp at *; omega)) (by first | omega | (simp; done) | (simp; omega) | (simp at *; omega)) (.p (.assign (.t rfl) ?_)))))
          refine .nil ?_
          refine ⟨k + 1, .cons rfl (.cons rfl (.cons rfl (.nil _))), rfl, ?_, by omega⟩
          omega
      · refine .exit ?_
        refine .seq ?_
        refine .region rfl ?_
        refine .p (.assign .b ?_)
        refine .nil ?_
        refine .ret ?_
        refine ⟨_, .r1 rfl (.tmp rfl), ?_⟩
        rfl
end Go.Proofs.YtdhfibhjfahdcaaDoor
set_option maxRecDepth 1000000
set_option linter.unusedVariables false
set_option linter.unusedSimpArgs false
namespace Go.Proofs.YtdhfibhjfahdcaaDoor
open Go.Fl Go.Ab Go.Mac Go.Sha
theorem Tag_deck_c (w : Value) (d : G_macaroonmade_Deck) (hd : DeckOk d) : FunH gl Tryd.prog 15 [dk w] [.ob w d] (fun r Hs => ∃ t : Tag, ∃ d', DeckOk d' ∧ r = .v t ∧ Hs = [.ob w d']) := by
  refine FunH.introD Tryd.func15 rfl (by kernel_rfl) 16 rfl rfl _ rfl _ rfl fun C hC hG => ?_
  refine .seq ?_
  refine .region rfl ?_
  refine .h (.alloc ty28 fun b2 => ?_)
  refine .nil ?_
  refine .seq ?_
  refine .region rfl ?_
  refine .h (.alloc ty28 fun b3 => ?_)
  refine .nil ?_
  refine .seq ?_
  refine .seq ?_
  refine .region rfl ?_
  refine .p (.assign (.i rfl) ?_)
  refine .nil ?_
  refine .block ?_
  refine .loopR (α := Nat × Tag × G_macaroonmade_Deck) [(0, _), (2, _), (3, _)] (fun x R => (4, .v (x.1 : Int)) :: R) (fun x => [(true, .ob (ptr b3 0) x.2.1), (true, .ob (ptr b2 0) (default : Tag)), (false, .ob w x.2.2)]) (fun x => x.1 ≤ 4 ∧ DeckOk x.2.2) (fun x => 4 - x.1) ((0, default, d)) (.cons rfl (.cons rfl (.cons rfl (.nil _)))) ?_ (.cons rfl (.cons rfl (.cons rfl (.cons rfl (.nil _))))) (rfl) fun x hF => ?_
  · exact ⟨Nat.zero_le _, hd⟩
  obtain ⟨k, t, e⟩ := x
  obtain ⟨h1, h2⟩ := hF
  dsimp only at h1 h2 ⊢
  refine .seq ?_
  refine .seq ?_
  refine .region rfl ?_
  refine .p (.move (.t rfl) (.p (.lss (.t rfl) (.i rfl) ?_)))
  refine .nil ?_
  refine .condP (.t rfl) (fun hc6 => ?_) (fun hc6 => ?_)
  · refine .skip ?_
    refine .seq ?_
    refine .block ?_
    refine .region rfl ?_
    refine .p (.move (.t rfl) (.p (.mul (.t rfl) (.i rfl) (by first | omega | (simp; done) | (simp; omega) | (simp at *; omega)) (by first | omega | (simp; done) | (simp; omega) | (simp at *; omega)) (.p (.move (.t rfl) (.h (.callM hG (Next_c _ _ _ (by assumption) (by first | omega | (simp; done) | (simp; omega) | (simp at *; omega)) (by first | omega | (simp; done) | (simp; omega) | (simp at *; omega))) (.s (.s .z)) (.cons (.t rfl) (.cons (.i rfl) .nil)) (by rintro _ _ ⟨_, rfl⟩; exact ⟨_, rfl⟩) fun r12 B12 hr12 => ?_)))))))
    obtain ⟨rfl, hB⟩ := hr12
    cases hB
    refine .p (.conv8 Tryd.underlying3 Tryd.underlying5 (.t rfl) (.p (.idxW ar28 (.t rfl) (.t rfl) (by first | omega | (simp; done) | (simp; omega) | (simp at *; omega)) (by first | omega | (simp; done) | (simp; omega) | (simp at *; omega)) (.n (.stL ty5 (.t rfl) (.t rfl) .z ?_)))))
    refine .nil ?_
    refine .region rfl ?_
    refine .p (.move (.t rfl) (.p (.add (.t rfl) (.i rfl) (by first | omega | (simp; done) | (simp; omega) | (simp at *; omega)) (by first | omega | (simp; done) | (simp; omega) | (simp at *; omega)) (.p (.assign (.t rfl) ?_)))))
    refine .nil ?_
    refine ⟨(k + 1, _, _), .cons rfl (.cons rfl (.cons rfl (.cons rfl (.nil _)))), rfl, ?_, by dsimp only; omega⟩
    exact ⟨by dsimp only; omega, deckNext_ok h2⟩
  · refine .exit ?_
    refine .seq ?_
    refine .region rfl ?_
    refine .p (.ldW ty28 (.t rfl) .z (.n (.stW ty28 (.t rfl) (.t rfl) (.s .z) ?_)))
    refine .nil ?_
    refine .ret ?_
    refine ⟨_, .r1 rfl (.cell ty28 rfl (.s .z)), ?_⟩
    exact ⟨2, _, _, h2, rfl, rfl⟩
theorem Bytes_deck_c (w : Value) (d : G_macaroonmade_Deck) (n : Int) (hd : DeckOk d) (h0 : 0 ≤ n) (h1 : n ≤ 1000000) : FunH gl Tryd.prog 17 [dk w, .v n] [.ob w d] (fun r Hs => ∃ l : List UInt8, (l.length : Int) ≤ n ∧ ∃ d', DeckOk d' ∧ r = .v l ∧ Hs = [.ob w d']) := by
  have hn0 := deckNext_le (d := d) (n := n + 1) (by omega)
  refine FunH.introD Tryd.func17 rfl (by kernel_rfl) 22 rfl rfl _ rfl _ rfl fun C hC hG => ?_
  refine .seq ?_
  refine .region rfl ?_
  refine .p (.assign (.nilS (α := UInt8)) ?_)
  refine .nil ?_
  refine .seq ?_
  refine .region rfl ?_
  refine .p (.assign .raw ?_)
  refine .nil ?_
  refine .seq ?_
  refine .seq ?_
  refine .nilOwn 5 UInt8 ?_
  refine .region rfl ?_
  refine .p (.move (.t rfl) (.p (.move (.t rfl) (.p (.add (.t rfl) (.i rfl) (by first | omega | (simp; done) | (simp; omega) | (simp at *; omega)) (by first | omega | (simp; done) | (simp; omega) | (simp at *; omega)) (.h (.callM hG (Next_c _ _ _ (by assumption) (by first | omega | (simp; done) | (simp; omega) | (simp at *; omega)) (by first | omega | (simp; done) | (simp; omega) | (simp at *; omega))) (.s .z) (.cons (.t rfl) (.cons (.t rfl) .nil)) (by rintro _ _ ⟨_, rfl⟩; exact ⟨_, rfl⟩) fun r10 B10 hr10 => ?_)))))))
  obtain ⟨rfl, hB⟩ := hr10
  cases hB
  refine .p (.assign (.t rfl) ?_)
  refine .nil ?_
  refine .block ?_
  refine .loopR (α := Nat × Value × List UInt8 × G_macaroonmade_Deck) [(0, _)] (fun x R => (5, .raw x.2.1) :: (6, .v (x.1 : Int)) :: R) (fun x => [(true, .own 5 x.2.1 x.2.2.1), (false, .ob w x.2.2.2)]) (fun x => (x.1 : Int) + x.2.2.1.length ≤ n ∧ DeckOk x.2.2.2) (fun x => x.1) (((deckNext d (n + 1)).1.toNat, .slice none 0 0, [], (deckNext d (n + 1)).2)) (.cons rfl (.nil _)) ?_ (.cons rfl (.cons (congrArg (fun q => some (AV.v q)) (by dsimp only; omega)) (.cons rfl (.nil _)))) (rfl) fun x hF => ?_
  · exact ⟨by dsimp only; simp; omega, deckNext_ok hd⟩
  obtain ⟨k, v, b, e⟩ := x
  obtain ⟨h2, h3⟩ := hF
  dsimp only at h2 h3 ⊢
  refine .seq ?_
  refine .seq ?_
  refine .region rfl ?_
  refine .p (.move (.t rfl) (.p (.gtr (.t rfl) (.i rfl) ?_)))
  refine .nil ?_
  refine .condP (.t rfl) (fun hc12 => ?_) (fun hc12 => ?_)
  · refine .skip ?_
    refine .seq ?_
    refine .block ?_
    refine .region rfl ?_
    refine .p (.move (.t rfl) (.p (.move (.t rfl) (.h (.callM hG (Next_c _ _ _ (by assumption) (by first | omega | (simp; done) | (simp; omega) | (simp at *; omega)) (by first | omega | (simp; done) | (simp; omega) | (simp at *; omega))) (.s .z) (.cons (.t rfl) (.cons (.i rfl) .nil)) (by rintro _ _ ⟨_, rfl⟩; exact ⟨_, rfl⟩) fun r17 B17 hr17 => ?_)))))
    obtain ⟨rfl, hB⟩ := hr17
    cases hB
    refine .p (.conv8 Tryd.underlying3 Tryd.underlying5 (.t rfl) (.h (.buildSlice (α := UInt8) ty5 Tryd.underlying23 (.cons (.t rfl) .nil) rfl (by decide) fun b19 => .h (.append st23 (.inl ⟨_, Tryd.underlying23⟩) rfl (.s .z) (.own rfl .z) (by first | omega | (simp; done) | (simp; omega) | (simp at *; omega)) (by first | omega | (simp; done) | (simp; omega) | (simp at *; omega)) (fun w20 => .p (.assign (.t rfl) ?_)) rfl))))
    refine .drop ?_
    refine .nil ?_
    refine .region rfl ?_
    refine .p (.move (.t rfl) (.p (.sub (.t rfl) (.i rfl) (by first | omega | (simp; done) | (simp; omega) | (simp at *; omega)) (by first | omega | (simp; done) | (simp; omega) | (simp at *; omega)) (.p (.assign (.t rfl) ?_)))))
    refine .nil ?_
    refine ⟨(k - 1, w20, _, _), .cons rfl (.cons (congrArg (fun q => some (AV.v q)) (by dsimp only; omega)) (.cons rfl (.nil _))), rfl, ?_, by dsimp only; omega⟩
    exact ⟨by dsimp only; simp; omega, deckNext_ok h3⟩
  · refine .exit ?_
    refine .seq ?_
    refine .frzOwn hC .z ?_
    refine .as 5 rfl .z ?_
    refine .region rfl ?_
    refine .p (.move (.t rfl) (.p (.assign (.t rfl) ?_)))
    refine .nil ?_
    refine .ret ?_
    refine ⟨_, .r1 rfl (.tmp rfl), ?_⟩
    exact ⟨1, _, by omega, _, h3, rfl, rfl⟩
theorem Known_deck_c (w : Value) (d : G_macaroonmade_Deck) (a : Alg) (hd : DeckOk d) (h0 : a.Macs.length ≤ 100000) (h1 : a.Boxes.length ≤ 100000) : FunH gl Tryd.prog 7 [dk w, .v a] [.ob w d] (fun r Hs => ∃ t : Tag, ∃ d', DeckOk d' ∧ r = .v t ∧ Hs = [.ob w d']) := by
  have hok1 := deckNext_ok (n := 4) hd
  refine FunH.introD Tryd.func7 rfl (by kernel_rfl) 67 rfl rfl _ rfl _ rfl fun C hC hG => ?_
  refine .seq ?_
  refine .region rfl ?_
  refine .h (.box (.t rfl) fun b3 => .h (.alloc ty28 fun b4 => ?_))
  refine .nil ?_
  refine .seq ?_
  refine .seq ?_
  refine .frzOb hC (.s .z) ?_
  refine .asP 3 rfl (.s .z) ?_
  refine .region rfl ?_
  refine .p (.move (.t rfl) (.h (.callM hG (Next_c _ _ _ (by assumption) (by first | omega | (simp; done) | (simp; omega) | (simp at *; omega)) (by first | omega | (simp; done) | (simp; omega) | (simp at *; omega))) (.s (.s .z)) (.cons (.t rfl) (.cons (.i rfl) .nil)) (by rintro _ _ ⟨_, rfl⟩; exact ⟨_, rfl⟩) fun r7 B7 hr7 => ?_)))
  obtain ⟨rfl, hB⟩ := hr7
  cases hB
  refine .p (.assign (.t rfl) ?_)
  refine .nil ?_
  refine .block ?_
  refine .seq ?_
  refine .region rfl ?_
  refine .p (.move (.t rfl) (.p (.eqlI (.t rfl) (.i rfl) (.p (.move (.t rfl) ?_)))))
  refine .go 11 rfl (.t rfl) (fun hg12 => .fldPF G_api_Algebra.l3 (fun x => x.Macs) fd32_3 rfl (fun _ => rfl) (.t rfl) rfl) ?_
  refine .go 11 rfl (.t rfl) (fun hg13 => .ldP ty29 (.o rfl (beq_iff_eq.2 hg13)) rfl) ?_
  refine .go 11 rfl (.t rfl) (fun hg14 => .len Tryd.underlying29 (.o rfl (beq_iff_eq.2 hg14)) rfl) ?_
  refine .go 11 rfl (.t rfl) (fun hg15 => .gtr (.o rfl (beq_iff_eq.2 hg15)) (.i rfl) rfl) ?_
  refine .p (.pickAnd (.t rfl) (fun hp => (.o rfl (beq_iff_eq.2 hp))) (.p (.assign (.t rfl) ?_)))
  refine .nil ?_
  refine .cond (.t rfl) (fun hc8 => ?_) (fun hc8 => ?_)
  · refine .seq ?_
    have hm3 : 0 < (a.Macs.length : Int) := by simp at hc8; omega
    have hle3 := deckNext_le (d := (deckNext d 4).2) hm3
    have hok3 := deckNext_ok (n := (a.Macs.length : Int)) hok1
    refine .drawCF [false, false, true] (by kernel_rfl) 10 [[], [(17, 0)], [], [], [(20, 3)], [(21, 4)], [(19, 2), (22, 5)], [(18, 1), (23, 6)], [(24, 7)], [(25, 8)]] [6, 7, 8, 9] rfl (by kernel_rfl) rfl (by kernel_rfl) (by decide) ?_
    refine ⟨_, fun H => OpP.fldPF G_api_Algebra.l3 (fun x => x.Macs) fd32_3 rfl (fun _ => rfl) (.t rfl) rfl, ?_⟩
    refine ⟨_, fun H => OpP.ldP ty29 (.t rfl) rfl, ?_⟩
    refine ⟨_, fun H => OpP.move (.t rfl) rfl, ?_⟩
    refine ⟨_, fun H => OpP.fldPF G_api_Algebra.l3 (fun x => x.Macs) fd32_3 rfl (fun _ => rfl) (.t rfl) rfl, ?_⟩
    refine ⟨_, fun H => OpP.ldP ty29 (.t rfl) rfl, ?_⟩
    refine ⟨_, fun H => OpP.len Tryd.underlying29 (.t rfl) rfl, ?_⟩
    refine .inl ?_
    refine .inl ?_
    refine .inl ?_
    refine .inl ?_
    refine ⟨⟨([], fun k => List.getD [(true, .none_), (true, .none_), _] k (true, .none_)), rfl⟩, ?_⟩
    refine OpH.callM hG (Next_c _ _ _ (by assumption) (by first | omega | (simp; done) | (simp; omega) | (simp at *; omega)) (by first | omega | (simp; done) | (simp; omega) | (simp at *; omega))) (.s (.s .z)) (.cons (.t rfl) (.cons (.t rfl) .nil)) (by rintro _ _ ⟨_, rfl⟩; exact ⟨_, rfl⟩) fun r23 B23 hr23 => ?_
    obtain ⟨rfl, hB⟩ := hr23
    cases hB
    refine ⟨⟨([], fun k => List.getD [(true, .none_), (true, .none_), _] k (true, .none_)), rfl⟩, ?_⟩
    refine OpH.ofP (OpP.idx ty53 Tryd.underlying29 (.t rfl) (.t rfl) (by first | omega | (simp; done) | (simp; omega) | (simp at *; omega)) (by first | omega | (simp; done) | (simp; omega) | (simp at *; omega)) ?_)
    refine ⟨⟨([], fun k => List.getD [(true, .none_), (true, .none_), _] k (true, .none_)), rfl⟩, ?_⟩
    refine OpH.ofP (OpP.fldPF G_api_Mac.l2 (fun x => x.Tag) fd53_2 rfl (fun _ => rfl) (.t rfl) ?_)
    refine ⟨⟨([], fun k => List.getD [(true, .none_), (true, .none_), _] k (true, .none_)), rfl⟩, ?_⟩
    refine OpH.ofP (OpP.ldP ty28 (.t rfl) ?_)
    refine ⟨⟨([], fun k => List.getD [(true, .none_), (true, .none_), _] k (true, .none_)), rfl⟩, ?_⟩
    show wpB _ _ _ _ _ _ ((26, _) :: (25, _) :: (24, _) :: (23, _) :: (22, _) :: (21, _) :: (20, _) :: (19, _) :: (18, _) :: (17, _) :: _) _
    refine .n (.stW ty28 (.t rfl) (.t rfl) .z ?_)
    refine .nil ?_
    refine .ret ?_
    refine ⟨_, .r1 rfl (.cell ty28 rfl .z), ?_⟩
    exact ⟨2, _, _, by assumption, rfl, rfl⟩
  · refine .seq ?_
    refine .region rfl ?_
    refine .p (.move (.t rfl) (.p (.eqlI (.t rfl) (.i rfl) (.p (.move (.t rfl) ?_)))))
    refine .go 30 rfl (.t rfl) (fun hg31 => .fldPF G_api_Algebra.l3 (fun x => x.Macs) fd32_3 rfl (fun _ => rfl) (.t rfl) rfl) ?_
    refine .go 30 rfl (.t rfl) (fun hg32 => .ldP ty29 (.o rfl (beq_iff_eq.2 hg32)) rfl) ?_
    refine .go 30 rfl (.t rfl) (fun hg33 => .len Tryd.underlying29 (.o rfl (beq_iff_eq.2 hg33)) rfl) ?_
    refine .go 30 rfl (.t rfl) (fun hg34 => .gtr (.o rfl (beq_iff_eq.2 hg34)) (.i rfl) rfl) ?_
    refine .p (.pickAnd (.t rfl) (fun hp => (.o rfl (beq_iff_eq.2 hp))) (.p (.assign (.t rfl) ?_)))
    refine .nil ?_
    refine .cond (.t rfl) (fun hc27 => ?_) (fun hc27 => ?_)
    · refine .seq ?_
      have hm5 : 0 < (a.Macs.length : Int) := by simp at hc27; omega
      have hle5 := deckNext_le (d := (deckNext d 4).2) hm5
      have hok3 := deckNext_ok (n := (a.Macs.length : Int)) hok1
      refine .drawCF [false, false, true] (by kernel_rfl) 10 [[], [(36, 0)], [], [], [(39, 3)], [(40, 4)], [(38, 2), (41, 5)], [(37, 1), (42, 6)], [(43, 7)], [(44, 8)]] [6, 7, 8, 9] rfl (by kernel_rfl) rfl (by kernel_rfl) (by decide) ?_
      refine ⟨_, fun H => OpP.fldPF G_api_Algebra.l3 (fun x => x.Macs) fd32_3 rfl (fun _ => rfl) (.t rfl) rfl, ?_⟩
      refine ⟨_, fun H => OpP.ldP ty29 (.t rfl) rfl, ?_⟩
      refine ⟨_, fun H => OpP.move (.t rfl) rfl, ?_⟩
      refine ⟨_, fun H => OpP.fldPF G_api_Algebra.l3 (fun x => x.Macs) fd32_3 rfl (fun _ => rfl) (.t rfl) rfl, ?_⟩
      refine ⟨_, fun H => OpP.ldP ty29 (.t rfl) rfl, ?_⟩
      refine ⟨_, fun H => OpP.len Tryd.underlying29 (.t rfl) rfl, ?_⟩
      refine .inl ?_
      refine .inl ?_
      refine .inl ?_
      refine .inl ?_
      refine ⟨⟨([], fun k => List.getD [(true, .none_), (true, .none_), _] k (true, .none_)), rfl⟩, ?_⟩
      refine OpH.callM hG (Next_c _ _ _ (by assumption) (by first | omega | (simp; done) | (simp; omega) | (simp at *; omega)) (by first | omega | (simp; done) | (simp; omega) | (simp at *; omega))) (.s (.s .z)) (.cons (.t rfl) (.cons (.t rfl) .nil)) (by rintro _ _ ⟨_, rfl⟩; exact ⟨_, rfl⟩) fun r42 B42 hr42 => ?_
      obtain ⟨rfl, hB⟩ := hr42
      cases hB
      refine ⟨⟨([], fun k => List.getD [(true, .none_), (true, .none_), _] k (true, .none_)), rfl⟩, ?_⟩
      refine OpH.ofP (OpP.idx ty53 Tryd.underlying29 (.t rfl) (.t rfl) (by first | omega | (simp; done) | (simp; omega) | (simp at *; omega)) (by first | omega | (simp; done) | (simp; omega) | (simp at *; omega)) ?_)
      refine ⟨⟨([], fun k => List.getD [(true, .none_), (true, .none_), _] k (true, .none_)), rfl⟩, ?_⟩
      refine OpH.ofP (OpP.fldPF G_api_Mac.l0 (fun x => x.Key) fd53_0 rfl (fun _ => rfl) (.t rfl) ?_)
      refine ⟨⟨([], fun k => List.getD [(true, .none_), (true, .none_), _] k (true, .none_)), rfl⟩, ?_⟩
      refine OpH.ofP (OpP.ldP ty28 (.t rfl) ?_)
      refine ⟨⟨([], fun k => List.getD [(true, .none_), (true, .none_), _] k (true, .none_)), rfl⟩, ?_⟩
      show wpB _ _ _ _ _ _ ((45, _) :: (44, _) :: (43, _) :: (42, _) :: (41, _) :: (40, _) :: (39, _) :: (38, _) :: (37, _) :: (36, _) :: _) _
      refine .n (.stW ty28 (.t rfl) (.t rfl) .z ?_)
      refine .nil ?_
      refine .ret ?_
      refine ⟨_, .r1 rfl (.cell ty28 rfl .z), ?_⟩
      exact ⟨2, _, _, by assumption, rfl, rfl⟩
    · refine .seq ?_
      refine .region rfl ?_
      refine .p (.move (.t rfl) (.p (.eqlI (.t rfl) (.i rfl) (.p (.move (.t rfl) ?_)))))
      refine .go 49 rfl (.t rfl) (fun hg50 => .fldPF G_api_Algebra.l4 (fun x => x.Boxes) fd32_4 rfl (fun _ => rfl) (.t rfl) rfl) ?_
      refine .go 49 rfl (.t rfl) (fun hg51 => .ldP ty30 (.o rfl (beq_iff_eq.2 hg51)) rfl) ?_
      refine .go 49 rfl (.t rfl) (fun hg52 => .len Tryd.underlying30 (.o rfl (beq_iff_eq.2 hg52)) rfl) ?_
      refine .go 49 rfl (.t rfl) (fun hg53 => .gtr (.o rfl (beq_iff_eq.2 hg53)) (.i rfl) rfl) ?_
      refine .p (.pickAnd (.t rfl) (fun hp => (.o rfl (beq_iff_eq.2 hp))) (.p (.assign (.t rfl) ?_)))
      refine .nil ?_
      refine .cond (.t rfl) (fun hc46 => ?_) (fun hc46 => ?_)
      · refine .seq ?_
        have hm7 : 0 < (a.Boxes.length : Int) := by simp at hc46; omega
        have hle7 := deckNext_le (d := (deckNext d 4).2) hm7
        have hok3 := deckNext_ok (n := (a.Boxes.length : Int)) hok1
        refine .drawCF [false, false, true] (by kernel_rfl) 10 [[], [(55, 0)], [], [], [(58, 3)], [(59, 4)], [(57, 2), (60, 5)], [(56, 1), (61, 6)], [(62, 7)], [(63, 8)]] [6, 7, 8, 9] rfl (by kernel_rfl) rfl (by kernel_rfl) (by decide) ?_
        refine ⟨_, fun H => OpP.fldPF G_api_Algebra.l4 (fun x => x.Boxes) fd32_4 rfl (fun _ => rfl) (.t rfl) rfl, ?_⟩
        refine ⟨_, fun H => OpP.ldP ty30 (.t rfl) rfl, ?_⟩
        refine ⟨_, fun H => OpP.move (.t rfl) rfl, ?_⟩
        refine ⟨_, fun H => OpP.fldPF G_api_Algebra.l4 (fun x => x.Boxes) fd32_4 rfl (fun _ => rfl) (.t rfl) rfl, ?_⟩
        refine ⟨_, fun H => OpP.ldP ty30 (.t rfl) rfl, ?_⟩
        refine ⟨_, fun H => OpP.len Tryd.underlying30 (.t rfl) rfl, ?_⟩
        refine .inl ?_
        refine .inl ?_
        refine .inl ?_
        refine .inl ?_
        refine ⟨⟨([], fun k => List.getD [(true, .none_), (true, .none_), _] k (true, .none_)), rfl⟩, ?_⟩
        refine OpH.callM hG (Next_c _ _ _ (by assumption) (by first | omega | (simp; done) | (simp; omega) | (simp at *; omega)) (by first | omega | (simp; done) | (simp; omega) | (simp at *; omega))) (.s (.s .z)) (.cons (.t rfl) (.cons (.t rfl) .nil)) (by rintro _ _ ⟨_, rfl⟩; exact ⟨_, rfl⟩) fun r61 B61 hr61 => ?_
        obtain ⟨rfl, hB⟩ := hr61
        cases hB
        refine ⟨⟨([], fun k => List.getD [(true, .none_), (true, .none_), _] k (true, .none_)), rfl⟩, ?_⟩
        refine OpH.ofP (OpP.idx ty55 Tryd.underlying30 (.t rfl) (.t rfl) (by first | omega | (simp; done) | (simp; omega) | (simp at *; omega)) (by first | omega | (simp; done) | (simp; omega) | (simp at *; omega)) ?_)
        refine ⟨⟨([], fun k => List.getD [(true, .none_), (true, .none_), _] k (true, .none_)), rfl⟩, ?_⟩
        refine OpH.ofP (OpP.fldPF G_api_Sealed.l0 (fun x => x.Key) fd55_0 rfl (fun _ => rfl) (.t rfl) ?_)
        refine ⟨⟨([], fun k => List.getD [(true, .none_), (true, .none_), _] k (true, .none_)), rfl⟩, ?_⟩
        refine OpH.ofP (OpP.ldP ty28 (.t rfl) ?_)
        refine ⟨⟨([], fun k => List.getD [(true, .none_), (true, .none_), _] k (true, .none_)), rfl⟩, ?_⟩
        show wpB _ _ _ _ _ _ ((64, _) :: (63, _) :: (62, _) :: (61, _) :: (60, _) :: (59, _) :: (58, _) :: (57, _) :: (56, _) :: (55, _) :: _) _
        refine .n (.stW ty28 (.t rfl) (.t rfl) .z ?_)
        refine .nil ?_
        refine .ret ?_
        refine ⟨_, .r1 rfl (.cell ty28 rfl .z), ?_⟩
        exact ⟨2, _, _, by assumption, rfl, rfl⟩
      · refine .skip ?_
        refine .seq ?_
        refine .region rfl ?_
        refine .p (.move (.t rfl) (.h (.callM hG (Tag_deck_c _ _ (by assumption)) (.s (.s .z)) (.cons (.t rfl) .nil) (by rintro _ _ ⟨_, _, _, _, rfl⟩; exact ⟨_, rfl⟩) fun r66 B66 hr66 => ?_)))
        obtain ⟨t66, e66, hok66, rfl, hB⟩ := hr66
        cases hB
        refine .n (.stW ty28 (.t rfl) (.t rfl) .z ?_)
        refine .nil ?_
        refine .ret ?_
        refine ⟨_, .r1 rfl (.cell ty28 rfl .z), ?_⟩
        exact ⟨2, _, _, by assumption, rfl, rfl⟩
end Go.Proofs.YtdhfibhjfahdcaaDoor
set_option maxRecDepth 1000000
set_option linter.unusedVariables false
set_option linter.unusedSimpArgs false
namespace Go.Proofs.YtdhfibhjfahdcaaDoor
open Go.Fl Go.Ab Go.Mac Go.Sha
theorem Word_c (s : Str) (b : List UInt8) (hs : s.l.length ≤ 1000) (hb : b.length ≤ 1000000) : FunA gl Tryd.prog 34 [.v s, .v b] (fun r => r = .v (s.l ++ b)) := by
  refine FunA.intro Tryd.func34 rfl (by kernel_rfl) 9 rfl rfl _ rfl fun C hC hG => ?_
  refine .seq ?_
  refine .region rfl ?_
  refine .p (.assign (.nilS (α := UInt8)) ?_)
  refine .nil ?_
  refine .seq ?_
  refine .region rfl ?_
  refine .p (.move (.t rfl) (.h (.strBytes Tryd.underlying9 Tryd.underlying23 Tryd.underlying5 (.t rfl) fun w6 => .p (.move (.t rfl) (.h (.append st23 (.inl ⟨_, Tryd.underlying23⟩) rfl .z (.v (.t rfl)) (by first | omega | (simp; done) | (simp; omega) | (simp at *; omega)) (by first | omega | (simp; done) | (simp; omega) | (simp at *; omega)) (fun w8 => .p (.assign (.t rfl) ?_)) rfl))))))
  refine .nil ?_
  refine .frzOwn hC .z ?_
  refine .as 4 rfl .z ?_
  refine .ret ?_
  refine ⟨_, .r1 rfl (.tmp rfl), ?_⟩
  rfl
theorem sh_ofInt (j : Nat) (h : j < 8) : UInt64.ofInt (56 - 8 * (j : Int)) = UInt64.ofNat (56 - 8 * j) := by
  apply UInt64.toNat_inj.1
  have := be64_sh j h
  rw [UInt64.toNat_ofNat']
  omega
theorem eightOwn_c (n : UInt64) : FunH gl Tryd.prog 32 [.v n] [] (fun r Hs => ∃ u, r = .raw u ∧ Hs = [.own 5 u (be64 n 8)]) := by
  refine FunH.introD Tryd.func32 rfl (by kernel_rfl) 18 rfl rfl _ rfl _ rfl fun C hC hG => ?_
  refine .seq ?_
  refine .region rfl ?_
  refine .p (.assign .raw ?_)
  refine .nil ?_
  refine .seq ?_
  refine .region rfl ?_
  refine .p (.assign .raw ?_)
  refine .nil ?_
  refine .seq ?_
  refine .seq ?_
  refine .nilOwn 5 UInt8 ?_
  refine .region rfl ?_
  refine .p (.assign (.i rfl) ?_)
  refine .nil ?_
  refine .block ?_
  refine .loopR (α := Nat × Value) [(0, _)] (fun x R => (3, .raw x.2) :: (4, .v (56 - 8 * (x.1 : Int))) :: R) (fun x => [(true, .own 5 x.2 (be64 n x.1))]) (fun x => x.1 ≤ 8) (fun x => 8 - x.1) ((0, .slice none 0 0)) (.cons rfl (.nil _)) ?_ (.cons rfl (.cons rfl (.cons rfl (.nil _)))) (rfl) fun x hF => ?_
  · simp
  obtain ⟨j, w⟩ := x
  dsimp only at hF ⊢
  refine .seq ?_
  refine .seq ?_
  refine .region rfl ?_
  refine .p (.move (.t rfl) (.p (.geq (.t rfl) (.i rfl) ?_)))
  refine .nil ?_
  refine .condP (.t rfl) (fun hc6 => ?_) (fun hc6 => ?_)
  · refine .skip ?_
    refine .seq ?_
    refine .block ?_
    have hbe := be64_length n j
    have hs5 := be64_sh j (by omega)
    refine .region rfl ?_
    refine .p (.move (.t rfl) (.p (.move (.t rfl) (.p (.move (.t rfl) (.p (.conv64 Tryd.underlying3 Tryd.underlying89 (.t rfl) (.p (.shr64 (.t rfl) (.t rfl) (by first | omega | (simp; done) | (simp; omega) | (simp at *; omega)) (by first | omega | (simp; done) | (simp; omega) | (simp at *; omega)) (.p (.conv64_8 Tryd.underlying69 Tryd.underlying5 (.t rfl) ?_)))))))))))
    refine .h (.buildSlice (α := UInt8) ty5 Tryd.underlying23 (.cons (.t rfl) .nil) rfl (by decide) fun b15 => .h (.append st23 (.inl ⟨_, Tryd.underlying23⟩) rfl (.s .z) (.own rfl .z) (by first | omega | (simp; done) | (simp; omega) | (simp at *; omega)) (by first | omega | (simp; done) | (simp; omega) | (simp at *; omega)) (fun w16 => .p (.assign (.t rfl) ?_)) rfl))
    refine .drop ?_
    refine .nil ?_
    refine .region rfl ?_
    refine .p (.move (.t rfl) (.p (.sub (.t rfl) (.i rfl) (by first | omega | (simp; done) | (simp; omega) | (simp at *; omega)) (by first | omega | (simp; done) | (simp; omega) | (simp at *; omega)) (.p (.assign (.t rfl) ?_)))))
    refine .nil ?_
    refine ⟨(j + 1, w16), .cons rfl (.cons (congrArg (fun q => some (AV.v q)) (by dsimp only; omega)) (.cons rfl (.nil _))), congrArg (fun q => [(true, Blk.own _ _ q)]) (by dsimp only; rw [be64_succ, ← sh_ofInt j (by omega)]), ?_, by dsimp only; omega⟩
    dsimp only; omega
  · refine .exit ?_
    refine .seq ?_
    refine .region rfl ?_
    refine .p (.move (.t rfl) (.p (.assign (.t rfl) ?_)))
    refine .nil ?_
    refine .ret ?_
    refine ⟨_, .r1 rfl (.tmp rfl), ?_⟩
    obtain rfl : j = 8 := by omega
    exact ⟨0, _, rfl, rfl⟩
def streamStr : Str := ⟨[115, 116, 114, 101, 97, 109]⟩
def keyBlock (key : Tag) (nonce : UInt64) (q : Nat) : Tag := hmac key.l (streamStr.l ++ (be64 nonce 8 ++ be64 (UInt64.ofNat q) 8))
def streamByte (key : Tag) (nonce : UInt64) (i : Nat) : UInt8 := (keyBlock key nonce (i / 32)).l.getD (i % 32) 0
def streamL (key : Tag) (nonce : UInt64) (b : List UInt8) (k : Nat) : List UInt8 := (b.take k).mapIdx (fun i c => c ^^^ streamByte key nonce i) ++ b.drop k
theorem streamL_length (key : Tag) (nonce : UInt64) (b : List UInt8) (k : Nat) : (streamL key nonce b k).length = b.length := by simp [streamL]; omega
theorem streamL_get (key : Tag) (nonce : UInt64) (b : List UInt8) (k : Nat) (hk : k < b.length) (h : k < (streamL key nonce b k).length) : (streamL key nonce b k)[k] = b[k] := by
  simp only [streamL]
  rw [List.getElem_append_right (by simp; omega)]
  simp
  congr 1; omega
theorem streamL_succ (key : Tag) (nonce : UInt64) (b : List UInt8) (k : Nat) (hk : k < b.length) : (streamL key nonce b k).set k (b[k] ^^^ streamByte key nonce k) = streamL key nonce b (k + 1) := by
  apply List.ext_getElem (by simp [streamL_length])
  intro j h1 h2
  rw [List.getElem_set]
  simp only [streamL]
  by_cases e : k = j
  · subst e
    rw [if_pos rfl, List.getElem_append_left (by simp; omega)]
    simp
  · rw [if_neg e]
    rcases Nat.lt_or_ge j k with h | h
    · rw [List.getElem_append_left (by simp; omega), List.getElem_append_left (by simp; omega)]
      simp
    · rw [List.getElem_append_right (by simp; omega), List.getElem_append_right (by simp; omega)]
      simp
      congr 1; omega
theorem stream_step (key : Tag) (nonce : UInt64) (b : List UInt8) (k : Nat) (hk : k < b.length) (h1 : (k : Int).toNat < (streamL key nonce b k).length) (h2 : ((k : Int) % 32).toNat < 32) :
    (streamL key nonce b k).set (k : Int).toNat ((streamL key nonce b k)[(k : Int).toNat] ^^^ (Lens.idx ((k : Int) % 32).toNat h2).get (hmac key.l (streamStr.l ++ (be64 nonce 8 ++ be64 (UInt64.ofInt ((k : Int) / 32)) 8)))) = streamL key nonce b (k + 1) := by
  rw [← streamL_succ key nonce b k hk]
  have e1 : (streamL key nonce b k)[(k : Int).toNat] = b[k] := streamL_get key nonce b k hk h1
  have e2 : UInt64.ofInt ((k : Int) / 32) = UInt64.ofNat (k / 32) := by
    apply UInt64.toNat_inj.1
    rw [show (k : Int) / 32 = ((k / 32 : Nat) : Int) by omega]
    simp [UInt64.ofInt]; omega
  have e3 : (Lens.idx ((k : Int) % 32).toNat h2).get (hmac key.l (streamStr.l ++ (be64 nonce 8 ++ be64 (UInt64.ofInt ((k : Int) / 32)) 8))) = streamByte key nonce k := by
    rw [e2]
    show (keyBlock key nonce (k / 32)).l[((k : Int) % 32).toNat]'_ = _
    unfold streamByte
    have h3 : ((k : Int) % 32).toNat = k % 32 := by omega
    have h4 : k % 32 < (keyBlock key nonce (k / 32)).l.length := by rw [Arr.len]; omega
    simp only [h3]
    rw [List.getD_eq_getElem?_getD, List.getElem?_eq_getElem h4]; rfl
  rw [e1, e3]; rfl
theorem rStream_c (key : Tag) (nonce : UInt64) (b : List UInt8) (hb : b.length ≤ 1000000) : FunA gl Tryd.prog 33 [.v key, .v nonce, .v b] (fun r => r = .v (streamL key nonce b b.length)) := by
  refine FunA.intro Tryd.func33 rfl (by kernel_rfl) 42 rfl rfl _ rfl fun C hC hG => ?_
  refine .seq ?_
  refine .region rfl ?_
  refine .h (.box (.t rfl) fun b3 => .p (.assign (.nilS (α := UInt8)) ?_))
  refine .nil ?_
  refine .seq ?_
  refine .frzOb hC .z ?_
  refine .asP 3 rfl .z ?_
  refine .region rfl ?_
  refine .h (.buildSlice (α := UInt8) ty5 Tryd.underlying23 .nil rfl (by decide) fun b10 => .p (.move (.t rfl) (.h (.append st23 (.inl ⟨_, Tryd.underlying23⟩) rfl .z (.v (.t rfl)) (by first | omega | (simp; done) | (simp; omega) | (simp at *; omega)) (by first | omega | (simp; done) | (simp; omega) | (simp at *; omega)) (fun w12 => .p (.assign (.t rfl) ?_)) rfl))))
  refine .nil ?_
  refine .seq ?_
  refine .seq ?_
  refine .region rfl ?_
  refine .p (.assign (.i rfl) ?_)
  refine .nil ?_
  refine .block ?_
  refine .loopR (α := Nat) [(1, _), (3, _), (7, _)] (fun k R => (8, .v (k : Int)) :: R) (fun k => [(true, .own 5 w12 (streamL key nonce b k)), (true, .fz (ptr b3 0) (.p key))]) (fun k => k ≤ b.length) (fun k => b.length - k) (0) (.cons rfl (.cons rfl (.cons rfl (.nil _)))) ?_ (.cons rfl (.cons rfl (.cons rfl (.cons rfl (.nil _))))) (rfl) fun k hF => ?_
  · simp
  have hl0 := streamL_length key nonce b k
  refine .seq ?_
  refine .seq ?_
  refine .region rfl ?_
  refine .p (.move (.t rfl) (.p (.move (.t rfl) (.p (.lenOwn Tryd.underlying23 rfl .z (.p (.lss (.t rfl) (.t rfl) ?_)))))))
  refine .nil ?_
  refine .condP (.t rfl) (fun hc16 => ?_) (fun hc16 => ?_)
  · refine .skip ?_
    refine .seq ?_
    refine .block ?_
    refine .seq ?_
    have hb1 := be64_length nonce 8
    have hb2 := be64_length (UInt64.ofInt ((k : Int) / 32)) 8
    have hl5 := streamL_length key nonce b k
    refine .drawZ [[false, false], [false, false], [false, false], [false, false]] [[false, false], [false, false], [], [false, false], [false, false], [false, false], [false, false], [], [], [false, false], []] [[], [], [], [9]] [(10, (⟨(Arr 32 UInt8), inferInstance, default⟩ : AT))] 3 (by kernel_rfl) 11 [[], [], [(20, 1)], [], [(22, 3)], [(23, 4)], [(24, 5)], [(21, 2), (25, 6)], [(26, 7)], [(19, 0), (27, 8)], []] [2, 7, 8] rfl (by kernel_rfl) rfl (by kernel_rfl) rfl (by decide) (by simp) (List.forall_mem_cons.2 ⟨fun o ho => by obtain rfl := Option.some.inj (show some _ = some o from ho); exact ⟨rfl, fun _ _ => OpH.alloc ty28 fun b => ⟨b, rfl, rfl⟩⟩, (fun p hp => by cases hp)⟩) (by kernel_rfl) rfl ?_
    refine ⟨_, fun H => OpP.slArrP (by decide) ar28 (.t rfl) rfl, ?_⟩
    refine ⟨_, fun H => OpP.move (.t rfl) rfl, ?_⟩
    refine .inl ?_
    refine ⟨_, fun H => OpP.move (.t rfl) rfl, ?_⟩
    refine ⟨_, fun H => OpP.quo (.t rfl) (.i rfl) (by first | omega | (simp; done) | (simp; omega) | (simp at *; omega)) (by first | omega | (simp; done) | (simp; omega) | (simp at *; omega)) rfl, ?_⟩
    refine ⟨_, fun H => OpP.conv64 Tryd.underlying3 Tryd.underlying69 (.t rfl) rfl, ?_⟩
    refine ⟨_, fun H => OpP.call1 hG (Eight_c _) (.cons (.t rfl) .nil) rfl, ?_⟩
    refine .inl ?_
    refine .inl ?_
    refine .inl ?_
    refine .inl ?_
    refine ⟨rfl, ?_⟩
    refine ⟨⟨fun k => List.getD [(true, .none_), (true, .none_)] k (true, .none_), rfl⟩, fun Ys5 => ?_⟩
    refine OpH.call0 hG (eightOwn_c _) (.cons (.t rfl) .nil) fun r21 Hs21 hr21 => ?_
    obtain ⟨u21, rfl, rfl⟩ := hr21
    refine ⟨[_], _, rfl, ?_⟩
    refine ⟨⟨fun k => List.getD [(true, .none_), (true, .none_)] k (true, .none_), rfl⟩, fun Ys5 => ?_⟩
    refine OpH.append st23 (.inl ⟨_, Tryd.underlying23⟩) rfl .z (.v (.t rfl)) (by first | omega | (simp; done) | (simp; omega) | (simp at *; omega)) (by first | omega | (simp; done) | (simp; omega) | (simp at *; omega)) (fun w26 => ?_) rfl
    refine ⟨[_], _, rfl, ?_⟩
    refine ⟨⟨fun k => List.getD [(true, .none_), (true, .none_)] k (true, .none_), rfl⟩, fun Ys5 => ?_⟩
    refine OpH.frzOwn hC .z (OpH.as 26 rfl .z (OpH.ofP (OpP.call1 hG (Word_c _ _ (by first | omega | (simp; done) | (simp; omega) | (simp at *; omega)) (by first | omega | (simp; done) | (simp; omega) | (simp at *; omega))) (.cons (.s [115, 116, 114, 101, 97, 109] (by decide) (by decide)) (.cons (.t rfl) .nil)) ?_)))
    refine ⟨[_], _, rfl, ?_⟩
    refine ⟨_, fun H => OpP.call1 hG (rHmac_c _ _ (by first | omega | (simp; done) | (simp; omega) | (simp at *; omega)) (by first | omega | (simp; done) | (simp; omega) | (simp at *; omega))) (.cons (.t rfl) (.cons (.t rfl) .nil)) rfl, ?_⟩
    refine ⟨⟨fun k => List.getD [(true, .none_), (true, .none_)] k (true, .none_), rfl⟩, fun ws5 => ?_⟩
    refine ⟨⟨fun k => List.getD [(true, .none_), (true, .none_)] k (true, .none_), rfl⟩, fun _ => ?_⟩
    show wpB _ _ _ _ _ _ ((9, _) :: (28, _) :: (27, _) :: (26, _) :: (25, _) :: (24, _) :: (23, _) :: (22, _) :: (21, _) :: (20, _) :: (19, _) :: _) _
    refine .n (.stW ty28 (.t rfl) (.t rfl) (.s .z) ?_)
    refine .nil ?_
    have hl6 := streamL_length key nonce b k
    refine .draw (by kernel_rfl) 12 [[], [], [], [], [(31, 2), (32, 3)], [(33, 4)], [], [(35, 6)], [(36, 7)], [(37, 8)], [(34, 5), (38, 9)], [(29, 0), (30, 1)]] rfl (by kernel_rfl) rfl ?_
    refine ⟨_, OpP.move (.t rfl) rfl, ?_⟩
    refine ⟨_, OpP.move (.t rfl) rfl, ?_⟩
    refine ⟨_, OpP.move (.t rfl) rfl, ?_⟩
    refine ⟨_, OpP.move (.t rfl) rfl, ?_⟩
    refine ⟨_, OpP.idxOwn ty5 Tryd.underlying23 rfl (.s (.s .z)) (.t rfl) (by first | omega | (simp; done) | (simp; omega) | (simp at *; omega)) (by first | omega | (simp; done) | (simp; omega) | (simp at *; omega)) rfl, ?_⟩
    refine ⟨_, OpP.ldEW ty5 (.t rfl) (.s (.s .z)) (by first | omega | (simp; done) | (simp; omega) | (simp at *; omega)) rfl, ?_⟩
    refine ⟨_, OpP.move (.t rfl) rfl, ?_⟩
    refine ⟨_, OpP.rem (.t rfl) (.i rfl) (by first | omega | (simp; done) | (simp; omega) | (simp at *; omega)) (by first | omega | (simp; done) | (simp; omega) | (simp at *; omega)) rfl, ?_⟩
    refine ⟨_, OpP.idxW ar28 (.t rfl) (.t rfl) (by first | omega | (simp; done) | (simp; omega) | (simp at *; omega)) (by first | omega | (simp; done) | (simp; omega) | (simp at *; omega)) rfl, ?_⟩
    refine ⟨_, OpP.ldL ty5 (.t rfl) (.s .z) rfl, ?_⟩
    refine ⟨_, OpP.xor8 (.t rfl) (.t rfl) rfl, ?_⟩
    refine ⟨_, OpP.idxOwn ty5 Tryd.underlying23 rfl (.s (.s .z)) (.t rfl) (by first | omega | (simp; done) | (simp; omega) | (simp at *; omega)) (by first | omega | (simp; done) | (simp; omega) | (simp at *; omega)) rfl, ?_⟩
    show wpB _ _ _ _ _ _ ((40, _) :: (39, _) :: (38, _) :: (37, _) :: (36, _) :: (35, _) :: (34, _) :: (33, _) :: (32, _) :: (31, _) :: (30, _) :: (29, _) :: _) _
    refine .n (.stEW ty5 (.t rfl) (.t rfl) (.s (.s .z)) (by first | omega | (simp; done) | (simp; omega) | (simp at *; omega)) ?_)
    refine .drop ?_
    refine .drop ?_
    refine .nil ?_
    refine .region rfl ?_
    refine .p (.move (.t rfl) (.p (.add (.t rfl) (.i rfl) (by first | omega | (simp; done) | (simp; omega) | (simp at *; omega)) (by first | omega | (simp; done) | (simp; omega) | (simp at *; omega)) (.p (.assign (.t rfl) ?_)))))
    refine .nil ?_
    refine ⟨k + 1, .cons rfl (.cons rfl (.cons rfl (.cons rfl (.nil _)))), congrArg (fun q => [(true, Blk.own _ _ q), _]) (stream_step key nonce b k (by omega) _ _), ?_, by omega⟩
    omega
  · refine .exit ?_
    refine .seq ?_
    refine .region rfl ?_
    refine .p (.move (.t rfl) (.p (.assign (.t rfl) ?_)))
    refine .nil ?_
    refine .frzOwn hC .z ?_
    refine .as 6 rfl .z ?_
    refine .ret ?_
    refine ⟨_, .r1 rfl (.tmp rfl), ?_⟩
    obtain rfl : k = b.length := by omega
    rfl
theorem wordOwn_c (s : Str) (b : List UInt8) (hs : s.l.length ≤ 1000) (hb : b.length ≤ 1000000) : FunH gl Tryd.prog 34 [.v s, .v b] [] (fun r Hs => ∃ u, r = .raw u ∧ Hs = [.own 5 u (s.l ++ b)]) := by
  refine FunH.introS Tryd.func34 rfl (by kernel_rfl) 9 rfl rfl _ rfl _ rfl fun C hC hG => ?_
  refine .seq ?_
  refine .region rfl ?_
  refine .p (.assign (.nilS (α := UInt8)) ?_)
  refine .nil ?_
  refine .seq ?_
  refine .region rfl ?_
  refine .p (.move (.t rfl) (.h (.strBytes Tryd.underlying9 Tryd.underlying23 Tryd.underlying5 (.t rfl) fun w6 => .p (.move (.t rfl) (.h (.append st23 (.inl ⟨_, Tryd.underlying23⟩) rfl .z (.v (.t rfl)) (by first | omega | (simp; done) | (simp; omega) | (simp at *; omega)) (by first | omega | (simp; done) | (simp; omega) | (simp at *; omega)) (fun w8 => .p (.assign (.t rfl) ?_)) rfl))))))
  refine .nil ?_
  refine .ret ?_
  refine ⟨_, .r1 rfl (.tmp rfl), ?_⟩
  refine ⟨_, .cons .z (.nil), ?_⟩
  exact ⟨w8, rfl, rfl⟩
def boxStr : Str := ⟨[98, 111, 120]⟩
def sealEq (k : Tag) (n : Int) (p : List UInt8) (x : G_api_Sealed) : Bool := decide (x.Key = k) && decide (x.Nonce = n) && decide (x.Plain = p)
def sealHead (k : Tag) (n : Int) (p : List UInt8) : List UInt8 := be64 (UInt64.ofInt n) 8 ++ streamL k (UInt64.ofInt n) p p.length
def realBox (k : Tag) (n : Int) (p : List UInt8) : List UInt8 := sealHead k n p ++ (hmac k.l (boxStr.l ++ sealHead k n p)).l
def newBox (a : Alg) (k : Tag) (n : Int) (p : List UInt8) : List UInt8 := if a.Free then (symTag 98 (a.Boxes.length + 1)).l ++ List.replicate (p.length + 8) 0 else realBox k n p
def algSeal (a : Alg) (k : Tag) (n : Int) (p : List UInt8) : Alg × List UInt8 × Int :=
  if n < 0 ∨ 281474976710656 < n then (default, [], 1) else if 256 < p.length then (default, [], 2) else
  match a.Boxes.find? (sealEq k n p) with
  | some x => (a, x.Box, 0)
  | none => if 65536 ≤ a.Boxes.length then (default, [], 2) else
    (⟨a.Free, a.Seed, a.Fresh, a.Macs, a.Boxes ++ [⟨k, n, p, newBox a k n p⟩]⟩, newBox a k n p, 0)
theorem algSeal_range {a : Alg} {k : Tag} {n : Int} {p : List UInt8} (h : (decide (n < 0) || decide (281474976710656 < n)) = true) : algSeal a k n p = (default, [], 1) := by
  unfold algSeal; rw [if_pos (by simpa using h)]
theorem algSeal_long {a : Alg} {k : Tag} {n : Int} {p : List UInt8} (h : (decide (n < 0) || decide (281474976710656 < n)) = false) (h2 : 256 < p.length) : algSeal a k n p = (default, [], 2) := by
  unfold algSeal; rw [if_neg (by simp at h ⊢; omega), if_pos h2]
theorem algSeal_found {a : Alg} {k : Tag} {n : Int} {p : List UInt8} {x : G_api_Sealed} (h : (decide (n < 0) || decide (281474976710656 < n)) = false) (h2 : ¬ 256 < p.length) (h3 : a.Boxes.find? (sealEq k n p) = some x) : algSeal a k n p = (a, x.Box, 0) := by
  unfold algSeal; rw [if_neg (by simp at h ⊢; omega), if_neg h2, h3]
theorem algSeal_full {a : Alg} {k : Tag} {n : Int} {p : List UInt8} (h : (decide (n < 0) || decide (281474976710656 < n)) = false) (h2 : ¬ 256 < p.length) (h3 : a.Boxes.find? (sealEq k n p) = none) (h4 : 65536 ≤ a.Boxes.length) : algSeal a k n p = (default, [], 2) := by
  unfold algSeal; rw [if_neg (by simp at h ⊢; omega), if_neg h2, h3]; simp only []; rw [if_pos h4]
theorem algSeal_new {a : Alg} {k : Tag} {n : Int} {p : List UInt8} (h : (decide (n < 0) || decide (281474976710656 < n)) = false) (h2 : ¬ 256 < p.length) (h3 : a.Boxes.find? (sealEq k n p) = none) (h4 : ¬ 65536 ≤ a.Boxes.length) :
    algSeal a k n p = (⟨a.Free, a.Seed, a.Fresh, a.Macs, a.Boxes ++ [⟨k, n, p, newBox a k n p⟩]⟩, newBox a k n p, 0) := by
  unfold algSeal; rw [if_neg (by simp at h ⊢; omega), if_neg h2, h3]; simp only []; rw [if_neg h4]
theorem newBox_free {a : Alg} {k : Tag} {n : Int} {p : List UInt8} (h : a.Free = true) : newBox a k n p = (symTag 98 (a.Boxes.length + 1)).l ++ List.replicate (p.length + 8) 0 := by unfold newBox; rw [if_pos h]
theorem newBox_real {a : Alg} {k : Tag} {n : Int} {p : List UInt8} (h : a.Free = false) : newBox a k n p = realBox k n p := by unfold newBox; rw [if_neg (by rw [h]; decide)]
theorem findS_some {l : List G_api_Sealed} {p : G_api_Sealed → Bool} {k : Nat} (h : k < l.length) (h1 : p l[k] = true) (h2 : ∀ j (hj : j < l.length), j < k → p l[j] = false) : l.find? p = some l[k] :=
  List.find?_eq_some_iff_getElem.2 ⟨h1, k, h, rfl, fun j hj => by rw [h2 j (by omega) hj]; rfl⟩
theorem findS_none {l : List G_api_Sealed} {p : G_api_Sealed → Bool} (h : ∀ j (hj : j < l.length), p l[j] = false) : l.find? p = none :=
  List.find?_eq_none.2 fun x hx => by
    obtain ⟨j, hj, rfl⟩ := List.getElem_of_mem hx
    rw [h j hj]; decide
theorem rSeal_c (a : Alg) (k : Tag) (n : Int) (p : List UInt8) (hb : ∀ x ∈ a.Boxes, x.Box.length ≤ 1000000) : FunA gl Tryd.prog 18 [.v a, .v k, .v n, .v p] (fun r => r = .t3 (.v (algSeal a k n p).1) (.v (algSeal a k n p).2.1) (.v (algSeal a k n p).2.2)) := by
  refine FunA.intro Tryd.func18 rfl (by kernel_rfl) 111 rfl rfl _ rfl fun C hC hG => ?_
  refine .seq ?_
  refine .region rfl ?_
  refine .h (.box (.t rfl) fun b4 => .h (.box (.t rfl) fun b5 => .h (.alloc ty32 fun b8 => .p (.assign (.nilS (α := UInt8)) (.p (.assign (.i rfl) ?_))))))
  refine .nil ?_
  refine .seq ?_
  refine .seq ?_
  refine .frzOb hC (.s .z) ?_
  refine .asP 5 rfl (.s .z) ?_
  refine .region rfl ?_
  refine .p (.move (.t rfl) (.p (.lss (.t rfl) (.i rfl) (.p (.move (.t rfl) ?_)))))
  refine .go 18 rfl (.t rfl) (fun hg19 => .move (.t rfl) rfl) ?_
  refine .go 18 rfl (.t rfl) (fun hg20 => .gtr (.o rfl (beq_iff_eq.2 hg20)) (.i rfl) rfl) ?_
  refine .p (.pickOr (.t rfl) (fun hp => (.o rfl (beq_iff_eq.2 hp))) ?_)
  refine .nil ?_
  refine .cond (.t rfl) (fun hc21 => ?_) (fun hc21 => ?_)
  · refine .seq ?_
    refine .region rfl ?_
    refine .p (.bS0 (α := G_api_Algebra) rfl ty32 fo32 (.n (.stW ty32 (.t rfl) (.t rfl) .z (.p (.assign (.nilS (α := UInt8)) (.p (.assign (.i rfl) ?_)))))))
    refine .nil ?_
    refine .ret ?_
    refine ⟨_, .r3 rfl (.cell ty32 rfl .z) (.tmp rfl) (.tmp rfl), ?_⟩
    rw [algSeal_range hc21]
  · refine .skip ?_
    refine .seq ?_
    refine .seq ?_
    refine .region rfl ?_
    refine .p (.move (.t rfl) (.p (.len Tryd.underlying23 (.t rfl) (.p (.gtr (.t rfl) (.i rfl) ?_)))))
    refine .nil ?_
    refine .condP (.t rfl) (fun hc25 => ?_) (fun hc25 => ?_)
    · refine .seq ?_
      refine .region rfl ?_
      refine .p (.bS0 (α := G_api_Algebra) rfl ty32 fo32 (.n (.stW ty32 (.t rfl) (.t rfl) .z (.p (.assign (.nilS (α := UInt8)) (.p (.assign (.i rfl) ?_)))))))
      refine .nil ?_
      refine .ret ?_
      refine ⟨_, .r3 rfl (.cell ty32 rfl .z) (.tmp rfl) (.tmp rfl), ?_⟩
      rw [algSeal_long hc21 (by omega)]
    · refine .skip ?_
      refine .seq ?_
      refine .seq ?_
      refine .region rfl ?_
      refine .p (.assign (.i rfl) ?_)
      refine .nil ?_
      refine .block ?_
      refine .loopR (α := Nat) [(2, _), (3, _), (4, _), (5, _), (8, _)] (fun i R => (11, .v (i : Int)) :: R) (fun i => [(true, .ob (ptr b8 0) (default : Alg)), (true, .fz (ptr b5 0) (.p k)), (true, .ob (ptr b4 0) a)]) (fun i => i ≤ a.Boxes.length ∧ ∀ j (hj : j < a.Boxes.length), j < i → sealEq k n p a.Boxes[j] = false) (fun i => a.Boxes.length - i) (0) (.cons rfl (.cons rfl (.cons rfl (.cons rfl (.cons rfl (.nil _)))))) ?_ (.cons rfl (.cons rfl (.cons rfl (.cons rfl (.cons rfl (.cons rfl (.nil _))))))) (rfl) fun i hF => ?_
      · simp
      obtain ⟨h1, h2⟩ := hF
      refine .seq ?_
      refine .seq ?_
      refine .region rfl ?_
      refine .p (.move (.t rfl) (.p (.fldW G_api_Algebra.l4 fd32_4 rfl (.t rfl) (.p (.ldF (fun x => x.Boxes) ty30 (.t rfl) (.s (.s .z)) (fun _ => rfl) (.p (.len Tryd.underlying30 (.t rfl) (.p (.lss (.t rfl) (.t rfl) ?_)))))))))
      refine .nil ?_
      refine .condP (.t rfl) (fun hc31 => ?_) (fun hc31 => ?_)
      · refine .skip ?_
        refine .seq ?_
        refine .block ?_
        refine .seq ?_
        refine .lenLe 29 rfl fun hl29 => ?_
        refine .region rfl ?_
        refine .p (.fldW G_api_Algebra.l4 fd32_4 rfl (.t rfl) (.p (.ldF (fun x => x.Boxes) ty30 (.t rfl) (.s (.s .z)) (fun _ => rfl) (.p (.move (.t rfl) (.p (.idx ty55 Tryd.underlying30 (.t rfl) (.t rfl) (by first | omega | (simp; done) | (simp; omega) | (simp at *; omega)) (by first | omega | (simp; done) | (simp; omega) | (simp at *; omega)) (.p (.ldP ty55 (.t rfl) (.h (.alloc ty55 fun b12 => ?_)))))))))))
        refine .n (.stW ty55 (.t rfl) (.t rfl) .z ?_)
        refine .nil ?_
        refine .seq ?_
        refine .region rfl ?_
        refine .p (.fldW G_api_Sealed.l0 fd55_0 rfl (.t rfl) (.p (.ldF (fun x => x.Key) ty28 (.t rfl) .z (fun _ => rfl) (.p (.ldP ty28 (.t rfl) (.p (.eqlA8 Tryd.underlying28 sz5 Tryd.underlying5 gd28 (.t rfl) (.t rfl) (.p (.move (.t rfl) ?_)))))))))
        refine .go 43 rfl (.t rfl) (fun hg44 => .fldW G_api_Sealed.l1 fd55_1 rfl (.t rfl) rfl) ?_
        refine .go 43 rfl (.t rfl) (fun hg45 => .ldF (fun x => x.Nonce) ty3 (.o rfl (beq_iff_eq.2 hg45)) .z (fun _ => rfl) rfl) ?_
        refine .go 43 rfl (.t rfl) (fun hg46 => .move (.t rfl) rfl) ?_
        refine .go 43 rfl (.t rfl) (fun hg47 => .eqlI (.o rfl (beq_iff_eq.2 hg47)) (.o rfl (beq_iff_eq.2 hg47)) rfl) ?_
        refine .p (.pickAnd (.t rfl) (fun hp => (.o rfl (beq_iff_eq.2 hp))) (.p (.move (.t rfl) ?_)))
        refine .go 49 rfl (.t rfl) (fun hg50 => .fldW G_api_Sealed.l2 fd55_2 rfl (.t rfl) rfl) ?_
        refine .go 49 rfl (.t rfl) (fun hg51 => .ldF (fun x => x.Plain) ty23 (.o rfl (beq_iff_eq.2 hg51)) .z (fun _ => rfl) rfl) ?_
        refine .go 49 rfl (.t rfl) (fun hg52 => .move (.t rfl) rfl) ?_
        refine .go 49 rfl (.t rfl) (fun hg53 => .call1 hG (Same_c _ _) (.cons (.o rfl (beq_iff_eq.2 hg53)) (.cons (.o rfl (beq_iff_eq.2 hg53)) .nil)) rfl) ?_
        refine .p (.pickAnd (.t rfl) (fun hp => (.o rfl (beq_iff_eq.2 hp))) ?_)
        refine .nil ?_
        refine .cond (.t rfl) (fun hc54 => ?_) (fun hc54 => ?_)
        · refine .seq ?_
          have hb10 : ∀ h : (i : Int).toNat < a.Boxes.length, (a.Boxes[(i : Int).toNat]'h).Box.length ≤ 1000000 := fun h => hb _ (List.getElem_mem h)
          have hb11 := hb10 (by omega)
          refine .draw (by kernel_rfl) 5 [[], [], [], [(57, 2)], [(56, 1), (58, 3)]] rfl (by kernel_rfl) rfl ?_
          refine ⟨_, OpP.ldW ty32 (.t rfl) (.s (.s (.s .z))) rfl, ?_⟩
          refine ⟨_, OpP.buildSliceF (α := UInt8) ty5 Tryd.underlying23 .nil rfl (by decide) rfl, ?_⟩
          refine ⟨_, OpP.fldW G_api_Sealed.l3 fd55_3 rfl (.t rfl) rfl, ?_⟩
          refine ⟨_, OpP.ldF (fun x => x.Box) ty23 (.t rfl) .z (fun _ => rfl) rfl, ?_⟩
          refine ⟨_, OpP.appendC st23 (.inl ⟨_, Tryd.underlying23⟩) (.t rfl) (.v (.t rfl)) (by first | omega | (simp; done) | (simp; omega) | (simp at *; omega)) (by first | omega | (simp; done) | (simp; omega) | (simp at *; omega)) rfl, ?_⟩
          show wpB _ _ _ _ _ _ ((59, _) :: (58, _) :: (57, _) :: (56, _) :: (55, _) :: _) _
          refine .n (.stW ty32 (.t rfl) (.t rfl) (.s .z) (.p (.assign (.t rfl) (.p (.assign (.i rfl) ?_)))))
          refine .nil ?_
          refine .ret ?_
          refine ⟨_, .r3 rfl (.cell ty32 rfl (.s .z)) (.tmp rfl) (.tmp rfl), ?_⟩
          rw [algSeal_found hc21 (by omega) (findS_some (k := i) (by omega) hc54 h2)]; rfl
        · refine .skip ?_
          refine .drop ?_
          refine .region rfl ?_
          refine .p (.move (.t rfl) (.p (.add (.t rfl) (.i rfl) (by first | omega | (simp; done) | (simp; omega) | (simp at *; omega)) (by first | omega | (simp; done) | (simp; omega) | (simp at *; omega)) (.p (.assign (.t rfl) ?_)))))
          refine .nil ?_
          refine ⟨i + 1, .cons rfl (.cons rfl (.cons rfl (.cons rfl (.cons rfl (.cons rfl (.nil _)))))), rfl, ?_, by omega⟩
          refine ⟨by omega, fun j hj hji => ?_⟩; rcases Nat.lt_or_ge j i with h | h; exact h2 j hj h; (obtain rfl : j = i := by omega); exact hc54
      · refine .exit ?_
        refine .seq ?_
        refine .seq ?_
        refine .region rfl ?_
        refine .p (.fldW G_api_Algebra.l4 fd32_4 rfl (.t rfl) (.p (.ldF (fun x => x.Boxes) ty30 (.t rfl) (.s (.s .z)) (fun _ => rfl) (.p (.len Tryd.underlying30 (.t rfl) (.p (.geq (.t rfl) (.i rfl) ?_)))))))
        refine .nil ?_
        refine .condP (.t rfl) (fun hc63 => ?_) (fun hc63 => ?_)
        · refine .seq ?_
          refine .region rfl ?_
          refine .p (.bS0 (α := G_api_Algebra) rfl ty32 fo32 (.n (.stW ty32 (.t rfl) (.t rfl) .z (.p (.assign (.nilS (α := UInt8)) (.p (.assign (.i rfl) ?_)))))))
          refine .nil ?_
          refine .ret ?_
          refine ⟨_, .r3 rfl (.cell ty32 rfl .z) (.tmp rfl) (.tmp rfl), ?_⟩
          rw [algSeal_full hc21 (by omega) (findS_none fun j hj => h2 j hj (by omega)) (by omega)]
        · refine .skip ?_
          refine .seq ?_
          refine .region rfl ?_
          refine .p (.assign (.nilS (α := UInt8)) ?_)
          refine .nil ?_
          refine .seq ?_
          refine .seq ?_
          refine .region rfl ?_
          refine .p (.fldW G_api_Algebra.l0 fd32_0 rfl (.t rfl) (.p (.ldF (fun x => x.Free) ty4 (.t rfl) (.s (.s .z)) (fun _ => rfl) ?_)))
          refine .nil ?_
          refine .cond (.t rfl) (fun hc66 => ?_) (fun hc66 => ?_)
          · refine .seq ?_
            refine .region rfl ?_
            refine .p (.fldW G_api_Algebra.l4 fd32_4 rfl (.t rfl) (.p (.ldF (fun x => x.Boxes) ty30 (.t rfl) (.s (.s .z)) (fun _ => rfl) (.p (.len Tryd.underlying30 (.t rfl) (.p (.add (.t rfl) (.i rfl) (by first | omega | (simp; done) | (simp; omega) | (simp at *; omega)) (by first | omega | (simp; done) | (simp; omega) | (simp at *; omega)) (.p (.call1 hG (rSymbol_c _ _) (.cons (.u8 98 rfl) (.cons (.t rfl) .nil)) (.h (.alloc ty28 fun b14 => ?_)))))))))))
            refine .n (.stW ty28 (.t rfl) (.t rfl) .z ?_)
            refine .nil ?_
            refine .frzOb hC .z ?_
            refine .asP 14 rfl .z ?_
            refine .region rfl ?_
            refine .p (.slArrPC (by decide) ar28 (.t rfl) (.p (.move (.t rfl) (.p (.len Tryd.underlying23 (.t rfl) (.p (.add (.t rfl) (.i rfl) (by first | omega | (simp; done) | (simp; omega) | (simp at *; omega)) (by first | omega | (simp; done) | (simp; omega) | (simp at *; omega)) (.p (.appendZC Tryd.underlying23 one5 rfl rfl rfl (fun _ => rfl) Tryd.underlying3 (.t rfl) (.t rfl) (by first | omega | (simp; done) | (simp; omega) | (simp at *; omega)) (by first | omega | (simp; done) | (simp; omega) | (simp at *; omega)) (by first | omega | (simp; done) | (simp; omega) | (simp at *; omega)) (.p (.assign (.t rfl) ?_)))))))))))
            refine .nil ?_
            refine .seq ?_
            refine .drawCF [false, false, false, false] (by kernel_rfl) 14 [[], [], [(94, 1)], [(93, 0), (95, 2)], [], [], [], [], [(99, 6), (100, 7)], [], [(97, 4), (98, 5), (101, 8), (102, 9)], [(103, 10)], [(96, 3), (104, 11)], []] [0, 3, 12] rfl (by kernel_rfl) rfl (by kernel_rfl) (by decide) ?_
            refine .inl ?_
            refine ⟨_, fun H => OpP.fldW G_api_Algebra.l4 fd32_4 rfl (.t rfl) rfl, ?_⟩
            refine ⟨_, fun H => OpP.ldF (fun x => x.Boxes) ty30 (.t rfl) (Hole.app (.s (.s (.s .z)))) (fun _ => rfl) rfl, ?_⟩
            refine .inl ?_
            refine ⟨_, fun H => OpP.ldP ty28 (.t rfl) rfl, ?_⟩
            refine ⟨_, fun H => OpP.move (.t rfl) rfl, ?_⟩
            refine ⟨_, fun H => OpP.buildSliceF (α := UInt8) ty5 Tryd.underlying23 .nil rfl (by decide) rfl, ?_⟩
            refine ⟨_, fun H => OpP.move (.t rfl) rfl, ?_⟩
            refine ⟨_, fun H => OpP.appendC st23 (.inl ⟨_, Tryd.underlying23⟩) (.t rfl) (.v (.t rfl)) (by first | omega | (simp; done) | (simp; omega) | (simp at *; omega)) (by first | omega | (simp; done) | (simp; omega) | (simp at *; omega)) rfl, ?_⟩
            refine ⟨_, fun H => OpP.move (.t rfl) rfl, ?_⟩
            refine ⟨_, fun H => OpP.bS4 G_api_Sealed.l0 G_api_Sealed.l1 G_api_Sealed.l2 G_api_Sealed.l3 rfl ty55 fo55 (fun c0 c1 c2 c3 => (⟨c0, c1, c2, c3⟩ : G_api_Sealed)) (fun _ _ _ _ => rfl) rfl rfl rfl rfl rfl (.t rfl) (.t rfl) (.t rfl) (.t rfl) rfl, ?_⟩
            refine ⟨_, fun H => OpP.buildSliceF (α := G_api_Sealed) ty55 Tryd.underlying30 (.cons (.t rfl) .nil) rfl (by decide) rfl, ?_⟩
            refine .inl ?_
            refine ⟨_, fun H => OpP.fldW G_api_Algebra.l4 fd32_4 rfl (.t rfl) rfl, ?_⟩
            refine ⟨⟨([], fun k => List.getD [(true, .none_), (true, .none_), (true, .none_), (true, .none_)] k (true, .none_)), rfl⟩, ?_⟩
            refine OpH.buildSlice (α := G_api_Sealed) ty55 Tryd.underlying30 .nil rfl (by decide) fun b93 => ?_
            refine ⟨⟨([_], fun k => List.getD [(true, .none_), (true, .none_), (true, .none_), (true, .none_)] k (true, .none_)), rfl⟩, ?_⟩
            refine OpH.append st30 (.inl ⟨_, Tryd.underlying30⟩) rfl .z (.v (.t rfl)) (by first | omega | (simp; done) | (simp; omega) | (simp at *; omega)) (by first | omega | (simp; done) | (simp; omega) | (simp at *; omega)) (fun w96 => ?_) rfl
            refine ⟨⟨([_], fun k => List.getD [(true, .none_), (true, .none_), (true, .none_), (true, .none_)] k (true, .none_)), rfl⟩, ?_⟩
            refine OpH.append st30 (.inl ⟨_, Tryd.underlying30⟩) rfl .z (.v (.c rfl)) (by first | omega | (simp; done) | (simp; omega) | (simp at *; omega)) (by first | omega | (simp; done) | (simp; omega) | (simp at *; omega)) (fun w105 => ?_) rfl
            refine ⟨⟨([_], fun k => List.getD [(true, .none_), (true, .none_), (true, .none_), (true, .none_)] k (true, .none_)), rfl⟩, ?_⟩
            show wpB _ _ _ _ _ _ ((106, _) :: (105, _) :: (104, _) :: (103, _) :: (102, _) :: (101, _) :: (100, _) :: (99, _) :: (98, _) :: (97, _) :: (96, _) :: (95, _) :: (94, _) :: (93, _) :: _) _
            refine .frzOwn hC .z ?_
            refine .as 105 rfl .z ?_
            refine .n (.stF (fun y x => { x with Boxes := y }) ty30 (.t rfl) (.t rfl) (.s (.s (.s (.s .z)))) (fun _ _ => rfl) ?_)
            refine .nil ?_
            refine .seq ?_
            refine .draw (by kernel_rfl) 4 [[], [], [], [(108, 1), (109, 2)]] rfl (by kernel_rfl) rfl ?_
            refine ⟨_, OpP.ldW ty32 (.t rfl) (.s (.s (.s (.s .z)))) rfl, ?_⟩
            refine ⟨_, OpP.buildSliceF (α := UInt8) ty5 Tryd.underlying23 .nil rfl (by decide) rfl, ?_⟩
            refine ⟨_, OpP.move (.t rfl) rfl, ?_⟩
            refine ⟨_, OpP.appendC st23 (.inl ⟨_, Tryd.underlying23⟩) (.t rfl) (.v (.t rfl)) (by first | omega | (simp; done) | (simp; omega) | (simp at *; omega)) (by first | omega | (simp; done) | (simp; omega) | (simp at *; omega)) rfl, ?_⟩
            show wpB _ _ _ _ _ _ ((110, _) :: (109, _) :: (108, _) :: (107, _) :: _) _
            refine .n (.stW ty32 (.t rfl) (.t rfl) (.s (.s .z)) (.p (.assign (.t rfl) (.p (.assign (.i rfl) ?_)))))
            refine .nil ?_
            refine .ret ?_
            refine ⟨_, .r3 rfl (.cell ty32 rfl (.s (.s .z))) (.tmp rfl) (.tmp rfl), ?_⟩
            rw [algSeal_new hc21 (by omega) (findS_none fun j hj => h2 j hj (by omega)) (by omega), newBox_free hc66]; rfl
          · refine .seq ?_
            have hb17 := be64_length (UInt64.ofInt n) 8
            have hb18 := streamL_length k (UInt64.ofInt n) p p.length
            refine .drawC (by kernel_rfl) 10 [[], [(77, 0)], [(78, 1)], [], [], [(81, 4)], [], [(80, 3), (82, 5), (83, 6)], [(79, 2), (84, 7)], [(85, 8)]] [2, 8, 9] rfl (by kernel_rfl) rfl (by kernel_rfl) (by decide) ?_
            refine ⟨_, fun H => OpP.move (.t rfl) rfl, ?_⟩
            refine ⟨_, fun H => OpP.conv64 Tryd.underlying3 Tryd.underlying69 (.t rfl) rfl, ?_⟩
            refine .inl ?_
            refine ⟨_, fun H => OpP.ldP ty28 (.t rfl) rfl, ?_⟩
            refine ⟨_, fun H => OpP.move (.t rfl) rfl, ?_⟩
            refine ⟨_, fun H => OpP.conv64 Tryd.underlying3 Tryd.underlying69 (.t rfl) rfl, ?_⟩
            refine ⟨_, fun H => OpP.move (.t rfl) rfl, ?_⟩
            refine ⟨_, fun H => OpP.call1 hG (rStream_c _ _ _ (by first | omega | (simp; done) | (simp; omega) | (simp at *; omega))) (.cons (.t rfl) (.cons (.t rfl) (.cons (.t rfl) .nil))) rfl, ?_⟩
            refine .inl ?_
            refine .inl ?_
            refine OpH.call0 hG (eightOwn_c _) (.cons (.t rfl) .nil) fun r79 Hs79 hr79 => ?_
            obtain ⟨u79, rfl, rfl⟩ := hr79
            refine OpH.append st23 (.inl ⟨_, Tryd.underlying23⟩) rfl .z (.v (.t rfl)) (by first | omega | (simp; done) | (simp; omega) | (simp at *; omega)) (by first | omega | (simp; done) | (simp; omega) | (simp at *; omega)) (fun w85 => ?_) rfl
            refine OpH.ofP (OpP.assign (.t rfl) ?_)
            show wpB _ _ _ _ _ _ ((13, _) :: (85, _) :: (84, _) :: (83, _) :: (82, _) :: (81, _) :: (80, _) :: (79, _) :: (78, _) :: (77, _) :: _) _
            refine .nil ?_
            refine .seq ?_
            refine .drawZ [[false, false, false, false], [true, false, false, false], [true, false, false, false]] [[true, false, false, false], [false, false, false, false], [], [], []] [] [(4, (⟨(Arr 32 UInt8), inferInstance, default⟩ : AT))] 2 (by kernel_rfl) 5 [[], [], [(87, 1)], [(86, 0), (88, 2)], []] [2, 3] rfl (by kernel_rfl) rfl (by kernel_rfl) rfl (by decide) (by simp) (List.forall_mem_cons.2 ⟨fun o ho => by obtain rfl := Option.some.inj (show some _ = some o from ho); exact ⟨rfl, fun _ _ => OpH.alloc ty28 fun b => ⟨b, rfl, rfl⟩⟩, (fun p hp => by cases hp)⟩) (by kernel_rfl) rfl ?_
            refine ⟨_, fun H => OpP.slArrP (by decide) ar28 (.t rfl) rfl, ?_⟩
            refine ⟨_, fun H => OpP.move (.t rfl) rfl, ?_⟩
            refine .inl ?_
            refine .inl ?_
            refine .inl ?_
            refine ⟨rfl, ?_⟩
            refine ⟨⟨fun k => List.getD [(true, .none_), (true, .none_), (true, .none_), (true, .none_)] k (true, .none_), rfl⟩, fun Ys18 => ?_⟩
            refine OpH.lend0 hG (wordOwn_c _ _ (by first | omega | (simp; done) | (simp; omega) | (simp at *; omega)) (by first | omega | (simp; done) | (simp; omega) | (simp at *; omega))) (.cons (.e (.s [98, 111, 120] (by decide) (by decide))) (.cons (.own rfl (Hole.app (Hole.app .z))) .nil)) (by rintro _ _ ⟨u, rfl, rfl⟩; exact .own) fun r88 Hs88 hr88 => ?_
            obtain ⟨u88, rfl, rfl⟩ := hr88
            refine ⟨[_], _, rfl, ?_⟩
            refine ⟨⟨fun k => List.getD [_, (true, .none_), (true, .none_), (true, .none_)] k (true, .none_), rfl⟩, fun Ys18 => ?_⟩
            refine OpH.ofP (OpP.lend1 hG (rHmac_c _ _ (by first | omega | (simp; done) | (simp; omega) | (simp at *; omega)) (by first | omega | (simp; done) | (simp; omega) | (simp at *; omega))) (.cons (.e (.t rfl)) (.cons (.own rfl .z) .nil)) (by first | exact .v | exact .t2 .v .v | exact .t3 .v .v .v) ?_)
            refine ⟨[_], _, rfl, ?_⟩
            refine ⟨⟨fun k => List.getD [_, (true, .none_), (true, .none_), (true, .none_)] k (true, .none_), rfl⟩, fun ws18 => ?_⟩
            refine ⟨⟨fun k => List.getD [_, (true, .none_), (true, .none_), (true, .none_)] k (true, .none_), rfl⟩, fun _ => ?_⟩
            show wpB _ _ _ _ _ _ ((15, _) :: (89, _) :: (88, _) :: (87, _) :: (86, _) :: _) _
            refine .n (.stW ty28 (.t rfl) (.t rfl) (.s .z) ?_)
            refine .nil ?_
            refine .frzOb hC (.s .z) ?_
            refine .asP 15 rfl (.s .z) ?_
            refine .region rfl ?_
            refine .p (.move (.t rfl) (.p (.slArrP (by decide) ar28 (.t rfl) (.h (.append st23 (.inl ⟨_, Tryd.underlying23⟩) rfl (.s (.s .z)) (.v (.t rfl)) (by first | omega | (simp; done) | (simp; omega) | (simp at *; omega)) (by first | omega | (simp; done) | (simp; omega) | (simp at *; omega)) (fun w92 => .p (.assign (.t rfl) ?_)) rfl)))))
            refine .nil ?_
            refine .seq ?_
            refine .frzOwn hC (.s (.s .z)) ?_
            refine .as 13 rfl (.s (.s .z)) ?_
            refine .drawCF [false, false, false, false, false, false] (by kernel_rfl) 14 [[], [], [(94, 1)], [(93, 0), (95, 2)], [], [], [], [], [(99, 6), (100, 7)], [], [(97, 4), (98, 5), (101, 8), (102, 9)], [(103, 10)], [(96, 3), (104, 11)], []] [0, 3, 12] rfl (by kernel_rfl) rfl (by kernel_rfl) (by decide) ?_
            refine .inl ?_
            refine ⟨_, fun H => OpP.fldW G_api_Algebra.l4 fd32_4 rfl (.t rfl) rfl, ?_⟩
            refine ⟨_, fun H => OpP.ldF (fun x => x.Boxes) ty30 (.t rfl) (Hole.app (.s (.s (.s (.s (.s .z)))))) (fun _ => rfl) rfl, ?_⟩
            refine .inl ?_
            refine ⟨_, fun H => OpP.ldP ty28 (.t rfl) rfl, ?_⟩
            refine ⟨_, fun H => OpP.move (.t rfl) rfl, ?_⟩
            refine ⟨_, fun H => OpP.buildSliceF (α := UInt8) ty5 Tryd.underlying23 .nil rfl (by decide) rfl, ?_⟩
            refine ⟨_, fun H => OpP.move (.t rfl) rfl, ?_⟩
            refine ⟨_, fun H => OpP.appendC st23 (.inl ⟨_, Tryd.underlying23⟩) (.t rfl) (.v (.t rfl)) (by first | omega | (simp; done) | (simp; omega) | (simp at *; omega)) (by first | omega | (simp; done) | (simp; omega) | (simp at *; omega)) rfl, ?_⟩
            refine ⟨_, fun H => OpP.move (.t rfl) rfl, ?_⟩
            refine ⟨_, fun H => OpP.bS4 G_api_Sealed.l0 G_api_Sealed.l1 G_api_Sealed.l2 G_api_Sealed.l3 rfl ty55 fo55 (fun c0 c1 c2 c3 => (⟨c0, c1, c2, c3⟩ : G_api_Sealed)) (fun _ _ _ _ => rfl) rfl rfl rfl rfl rfl (.t rfl) (.t rfl) (.t rfl) (.t rfl) rfl, ?_⟩
            refine ⟨_, fun H => OpP.buildSliceF (α := G_api_Sealed) ty55 Tryd.underlying30 (.cons (.t rfl) .nil) rfl (by decide) rfl, ?_⟩
            refine .inl ?_
            refine ⟨_, fun H => OpP.fldW G_api_Algebra.l4 fd32_4 rfl (.t rfl) rfl, ?_⟩
            refine ⟨⟨([], fun k => List.getD [(true, .none_), (true, .none_), (true, .none_), (true, .none_), (true, .none_), (true, .none_)] k (true, .none_)), rfl⟩, ?_⟩
            refine OpH.buildSlice (α := G_api_Sealed) ty55 Tryd.underlying30 .nil rfl (by decide) fun b93 => ?_
            refine ⟨⟨([_], fun k => List.getD [(true, .none_), (true, .none_), (true, .none_), (true, .none_), (true, .none_), (true, .none_)] k (true, .none_)), rfl⟩, ?_⟩
            refine OpH.append st30 (.inl ⟨_, Tryd.underlying30⟩) rfl .z (.v (.t rfl)) (by first | omega | (simp; done) | (simp; omega) | (simp at *; omega)) (by first | omega | (simp; done) | (simp; omega) | (simp at *; omega)) (fun w96 => ?_) rfl
            refine ⟨⟨([_], fun k => List.getD [(true, .none_), (true, .none_), (true, .none_), (true, .none_), (true, .none_), (true, .none_)] k (true, .none_)), rfl⟩, ?_⟩
            refine OpH.append st30 (.inl ⟨_, Tryd.underlying30⟩) rfl .z (.v (.c rfl)) (by first | omega | (simp; done) | (simp; omega) | (simp at *; omega)) (by first | omega | (simp; done) | (simp; omega) | (simp at *; omega)) (fun w105 => ?_) rfl
            refine ⟨⟨([_], fun k => List.getD [(true, .none_), (true, .none_), (true, .none_), (true, .none_), (true, .none_), (true, .none_)] k (true, .none_)), rfl⟩, ?_⟩
            show wpB _ _ _ _ _ _ ((106, _) :: (105, _) :: (104, _) :: (103, _) :: (102, _) :: (101, _) :: (100, _) :: (99, _) :: (98, _) :: (97, _) :: (96, _) :: (95, _) :: (94, _) :: (93, _) :: _) _
            refine .frzOwn hC .z ?_
            refine .as 105 rfl .z ?_
            refine .n (.stF (fun y x => { x with Boxes := y }) ty30 (.t rfl) (.t rfl) (.s (.s (.s (.s (.s (.s .z)))))) (fun _ _ => rfl) ?_)
            refine .nil ?_
            refine .seq ?_
            refine .draw (by kernel_rfl) 4 [[], [], [], [(108, 1), (109, 2)]] rfl (by kernel_rfl) rfl ?_
            refine ⟨_, OpP.ldW ty32 (.t rfl) (.s (.s (.s (.s (.s (.s .z)))))) rfl, ?_⟩
            refine ⟨_, OpP.buildSliceF (α := UInt8) ty5 Tryd.underlying23 .nil rfl (by decide) rfl, ?_⟩
            refine ⟨_, OpP.move (.t rfl) rfl, ?_⟩
            refine ⟨_, OpP.appendC st23 (.inl ⟨_, Tryd.underlying23⟩) (.t rfl) (.v (.t rfl)) (by first | omega | (simp; done) | (simp; omega) | (simp at *; omega)) (by first | omega | (simp; done) | (simp; omega) | (simp at *; omega)) rfl, ?_⟩
            show wpB _ _ _ _ _ _ ((110, _) :: (109, _) :: (108, _) :: (107, _) :: _) _
            refine .n (.stW ty32 (.t rfl) (.t rfl) (.s (.s (.s (.s .z)))) (.p (.assign (.t rfl) (.p (.assign (.i rfl) ?_)))))
            refine .nil ?_
            refine .ret ?_
            refine ⟨_, .r3 rfl (.cell ty32 rfl (.s (.s (.s (.s .z))))) (.tmp rfl) (.tmp rfl), ?_⟩
            rw [algSeal_new hc21 (by omega) (findS_none fun j hj => h2 j hj (by omega)) (by omega), newBox_real hc66]; rfl
end Go.Proofs.YtdhfibhjfahdcaaDoor
set_option maxRecDepth 1000000
set_option linter.unusedVariables false
set_option linter.unusedSimpArgs false
namespace Go.Proofs.YtdhfibhjfahdcaaDoor
open Go.Fl Go.Ab Go.Mac Go.Sha
structure G_api_AlgebraR where
  Free : Bool
  Seed : (Arr 32 UInt8)
  Fresh : Int
  Macs : SlRaw
  Boxes : SlRaw
def G_api_AlgebraR.f (x : G_api_AlgebraR) : Bool × (Arr 32 UInt8) × Int × SlRaw × SlRaw × Unit := (x.Free, x.Seed, x.Fresh, x.Macs, x.Boxes, ())
instance : Inhabited G_api_AlgebraR := ⟨⟨default, default, default, default, default⟩⟩
instance : Rep G_api_AlgebraR := Rep.via G_api_AlgebraR.f
instance : RepZ G_api_AlgebraR := RepZ.via G_api_AlgebraR.f rfl
def G_api_AlgebraR.l0 : Lens G_api_AlgebraR Bool := Lens.via G_api_AlgebraR.f Lens.fst (fun x => x.Free) (fun y x => { x with Free := y }) (fun _ => rfl) (fun _ _ => rfl)
def G_api_AlgebraR.l3 : Lens G_api_AlgebraR SlRaw := Lens.via G_api_AlgebraR.f (Lens.snd.comp (Lens.snd.comp (Lens.snd.comp Lens.fst))) (fun x => x.Macs) (fun y x => { x with Macs := y }) (fun _ => rfl) (fun _ _ => rfl)
def G_api_AlgebraR.l4 : Lens G_api_AlgebraR SlRaw := Lens.via G_api_AlgebraR.f (Lens.snd.comp (Lens.snd.comp (Lens.snd.comp (Lens.snd.comp Lens.fst)))) (fun x => x.Boxes) (fun y x => { x with Boxes := y }) (fun _ => rfl) (fun _ _ => rfl)
structure G_algebra_MakerR where
  a : G_api_AlgebraR
  e : Int
def G_algebra_MakerR.f (x : G_algebra_MakerR) : G_api_AlgebraR × Int × Unit := (x.a, x.e, ())
instance : Inhabited G_algebra_MakerR := ⟨⟨default, default⟩⟩
instance : Rep G_algebra_MakerR := Rep.via G_algebra_MakerR.f
instance : RepZ G_algebra_MakerR := RepZ.via G_algebra_MakerR.f rfl
def G_algebra_MakerR.l0 : Lens G_algebra_MakerR G_api_AlgebraR := Lens.via G_algebra_MakerR.f Lens.fst (fun x => x.a) (fun y x => { x with a := y }) (fun _ => rfl) (fun _ _ => rfl)
def G_algebra_MakerR.l1 : Lens G_algebra_MakerR Int := Lens.via G_algebra_MakerR.f (Lens.snd.comp Lens.fst) (fun x => x.e) (fun y x => { x with e := y }) (fun _ => rfl) (fun _ _ => rfl)
theorem tyR29 : TyIs Tryd.prog 29 SlRaw := .of (by kernel_rfl) (by kernel_rfl) (by kernel_rfl) (by decide)
theorem tyR30 : TyIs Tryd.prog 30 SlRaw := .of (by kernel_rfl) (by kernel_rfl) (by kernel_rfl) (by decide)
theorem tyR32 : TyIs Tryd.prog 32 G_api_AlgebraR := .of (by kernel_rfl) (by kernel_rfl) (by kernel_rfl) (by decide)
theorem tyR75 : TyIs Tryd.prog 75 G_algebra_MakerR := .of (by kernel_rfl) (by kernel_rfl) (by kernel_rfl) (by decide)
def rawAlg (a : Alg) (um ub : Value) : G_api_AlgebraR := ⟨a.Free, a.Seed, a.Fresh, ⟨um⟩, ⟨ub⟩⟩
def rawMk (a : Alg) (e : Int) (um ub : Value) : G_algebra_MakerR := ⟨rawAlg a um ub, e⟩
theorem rawAlg_of (a : Alg) (I : Im) (u : Value) (h : RepV I (.v a) u) : ∃ x y, RepV I (.v (rawAlg a x y)) u ∧ RepV I (.v a.Macs) x ∧ RepV I (.v a.Boxes) y := by
  obtain ⟨cs, ⟨c1, r1, rfl, h1, c2, r2, rfl, h2, c3, r3, rfl, h3, c4, r4, rfl, h4, c5, r5, rfl, h5, h6⟩, rfl⟩ := h
  obtain ⟨v4, rfl, h4⟩ := h4
  obtain ⟨v5, rfl, h5⟩ := h5
  have o4 : v4.oneCell' = true := by obtain ⟨xs, ⟨a, c, rfl, _⟩, _⟩ := h4; rfl
  have o5 : v5.oneCell' = true := by obtain ⟨xs, ⟨a, c, rfl, _⟩, _⟩ := h5; rfl
  exact ⟨v4, v5, ⟨_, ⟨c1, _, rfl, h1, c2, _, rfl, h2, c3, _, rfl, h3, _, _, rfl, ⟨rfl, o4⟩, _, _, rfl, ⟨rfl, o5⟩, h6⟩, rfl⟩, ⟨_, ⟨v4, rfl, h4⟩, rfl⟩, ⟨_, ⟨v5, rfl, h5⟩, rfl⟩⟩
theorem rawAlg_to (a : Alg) (x y : Value) (I : Im) (u : Value) (h : RepV I (.v (rawAlg a x y)) u) (h4 : RepV I (.v a.Macs) x) (h5 : RepV I (.v a.Boxes) y) : RepV I (.v a) u := by
  obtain ⟨cs, ⟨c1, r1, rfl, h1, c2, r2, rfl, h2, c3, r3, rfl, h3, c4, r4, rfl, ⟨rfl, _⟩, c5, r5, rfl, ⟨rfl, _⟩, h6⟩, rfl⟩ := h
  obtain ⟨_, ⟨v4, rfl, h4⟩, rfl⟩ := h4
  obtain ⟨_, ⟨v5, rfl, h5⟩, rfl⟩ := h5
  exact ⟨_, ⟨c1, _, rfl, h1, c2, _, rfl, h2, c3, _, rfl, h3, _, _, rfl, ⟨_, rfl, h4⟩, _, _, rfl, ⟨_, rfl, h5⟩, h6⟩, rfl⟩
abbrev gsM (u : Value) (a : Alg) : Blk := .usr u (GS.mk 53 a.Macs)
abbrev gsB (u : Value) (a : Alg) : Blk := .usr u (GS.mk 55 a.Boxes)
abbrev mp (w : Value) : AV := .ln w (Lens.id (α := G_algebra_MakerR))
structure MkU where
  a : Alg
  e : Int
  um : Value
  ub : Value
def MkU.bs (w : Value) (x : MkU) : List Blk := [.ob w (rawMk x.a x.e x.um x.ub), gsM x.um x.a, gsB x.ub x.a]
theorem repK.mono {I J : Im} (hle : Le I J) : ∀ {Hs : List Blk} {L : Lh}, repK I Hs L → repK J Hs L
  | [], _, h => h
  | B :: Hs, _, h => by obtain ⟨X, R, h1, h2, h3⟩ := h; exact ⟨X, R, h1, Blk.mono hle h2, repK.mono hle h3⟩
instance : UB MkU where
  ub I w x X := ∃ L, X = L.flatten ∧ repK I (x.bs w) L
  mono hle h := by obtain ⟨L, h1, h2⟩ := h; exact ⟨L, h1, repK.mono hle h2⟩
theorem FunH.mk {G : Gl} {P : Program} {f : FuncId} {ag : List AV} {w : Value} {x : MkU} {post : AV → MkU → Prop} (h : FunH G P f ag (x.bs w) (fun r Hs => ∃ x', Hs = x'.bs w ∧ post r x')) :
    FunH G P f ag [.usr w x] (fun r Hs => ∃ x', Hs = [.usr w x'] ∧ post r x') := by
  refine .regroup fun I L vs hvs hL => ?_
  obtain ⟨X, R, rfl, ⟨L0, rfl, h1⟩, h2⟩ := hL
  obtain rfl : R = [] := h2
  refine ⟨ag, x.bs w, L0, by simp, hvs, h1, fun I L vs hG hvs hL => ?_⟩
  have hM := h I L vs hG hvs hL
  refine ⟨hM.ok, fun w0 hm => (hM.run w0 hm).mono ?_⟩
  rintro e w' ⟨v, J, L', rfl, q1, q2, q3, q4, q5, r, Hs, q6, q7, x', rfl, q8⟩
  exact ⟨v, J, L', rfl, q1, q2, q3, q4, q5, r, _, q6, q7, fun J' L1 h3 => ⟨[.usr w x'], [L1.flatten], by simp, ⟨_, [], rfl, ⟨L1, rfl, h3⟩, rfl⟩, x', rfl, q8⟩⟩
theorem FunH.mkNew {G : Gl} {P : Program} {f : FuncId} {ag : List AV} {post : AV → Value → MkU → Prop} (h : FunH G P f ag [] (fun r Hs => ∃ w x', Hs = MkU.bs w x' ∧ post r w x')) :
    FunH G P f ag [] (fun r Hs => ∃ w x', Hs = [.usr w x'] ∧ post r w x') := by
  refine .regroup fun I L vs hvs hL => ⟨ag, [], L, rfl, hvs, hL, fun I L vs hG hvs hL => ?_⟩
  have hM := h I L vs hG hvs hL
  refine ⟨hM.ok, fun w0 hm => (hM.run w0 hm).mono ?_⟩
  rintro e w' ⟨v, J, L', rfl, q1, q2, q3, q4, q5, r, Hs, q6, q7, w, x', rfl, q8⟩
  exact ⟨v, J, L', rfl, q1, q2, q3, q4, q5, r, _, q6, q7, fun J' L1 h3 => ⟨[.usr w x'], [L1.flatten], by simp, ⟨_, [], rfl, ⟨L1, rfl, h3⟩, rfl⟩, w, x', rfl, q8⟩⟩
theorem Begin_c (a : Alg) : FunH gl Tryd.prog 19 [.v a] [] (fun r Hs => ∃ w, ∃ x : MkU, Hs = [.usr w x] ∧ r = mp w ∧ x.a = a ∧ x.e = 0) := by
  refine FunH.mkNew (post := fun r w x => r = mp w ∧ x.a = a ∧ x.e = 0) ?_
  refine FunH.introS Tryd.func19 rfl (by kernel_rfl) 14 rfl rfl _ rfl _ rfl fun C hC hG => ?_
  refine .seq ?_
  refine .name2 0 (fun um ub => .v (rawAlg a um ub)) (rawAlg_of a) rfl fun um ub => ?_
  refine .region rfl ?_
  refine .h (.box (.t rfl) fun b1 => .p (.assign .raw ?_))
  refine .nil ?_
  refine .seq ?_
  refine .drawCF [false, false, false] (by kernel_rfl) 7 [[], [(3, 0)], [(4, 1)], [], [(6, 3)], [(7, 4)], []] [2, 5] rfl (by kernel_rfl) rfl (by kernel_rfl) (by decide) ?_
  refine ⟨_, fun H => OpP.fldW G_api_AlgebraR.l3 fd32_3 rfl (.t rfl) rfl, ?_⟩
  refine ⟨_, fun H => OpP.ldR (fun x => x.Macs) tyR29 (.t rfl) (Hole.app .z) (fun _ => rfl) rfl, ?_⟩
  refine .inl ?_
  refine ⟨_, fun H => OpP.fldW G_api_AlgebraR.l4 fd32_4 rfl (.t rfl) rfl, ?_⟩
  refine ⟨_, fun H => OpP.ldR (fun x => x.Boxes) tyR30 (.t rfl) (Hole.app .z) (fun _ => rfl) rfl, ?_⟩
  refine .inl ?_
  refine ⟨_, fun H => OpP.fldW G_api_AlgebraR.l3 fd32_3 rfl (.t rfl) rfl, ?_⟩
  refine ⟨⟨([], fun k => List.getD [(true, .none_), (true, .none_), (true, .none_)] k (true, .none_)), rfl⟩, ?_⟩
  refine OpH.call0 hG (FunA.gs 53 (clipMac_c _)) (.cons (.fzA rfl (.s .z)) .nil) fun r5 Hs5 hr5 => ?_
  obtain ⟨u5, rfl, rfl⟩ := hr5
  refine ⟨⟨([_], fun k => List.getD [(true, .none_), (true, .none_), (true, .none_)] k (true, .none_)), rfl⟩, ?_⟩
  refine OpH.call0 hG (FunA.gs 55 (clipSealed_c _)) (.cons (.fzA rfl (.s (.s (.s .z)))) .nil) fun r8 Hs8 hr8 => ?_
  obtain ⟨u8, rfl, rfl⟩ := hr8
  refine ⟨⟨([_, _], fun k => List.getD [(true, .none_), (true, .none_), (true, .none_)] k (true, .none_)), rfl⟩, ?_⟩
  show wpB _ _ _ _ _ _ ((9, _) :: (8, _) :: (7, _) :: (6, _) :: (5, _) :: (4, _) :: (3, _) :: _) _
  refine .n (.stF (fun y x => { x with Macs := y }) tyR29 (.t rfl) (.gs rfl (.s .z)) (.s (.s .z)) (fun _ _ => rfl) (.p (.fldW G_api_AlgebraR.l4 fd32_4 rfl (.t rfl) (.n (.stF (fun y x => { x with Boxes := y }) tyR30 (.t rfl) (.gs rfl .z) (.s (.s .z)) (fun _ _ => rfl) ?_)))))
  refine .nil ?_
  refine .seq ?_
  refine .region rfl ?_
  refine .p (.ldW tyR32 (.t rfl) (.s (.s .z)) (.p (.bS1 G_algebra_MakerR.l0 rfl tyR75 fo75 (fun c0 => (⟨c0, 0⟩ : G_algebra_MakerR)) (fun _ => rfl) rfl rfl (.t rfl) (.h (.box (.t rfl) fun b13 => .p (.assign (.t rfl) ?_))))))
  refine .nil ?_
  refine .ret ?_
  refine ⟨_, .r1 rfl (.tmp rfl), ?_⟩
  refine ⟨_, .cons .z (.cons (.s (.s .z)) (.cons (.s .z) (.nil))), ?_⟩
  exact ⟨ptr b13 0, ⟨a, 0, u5, u8⟩, rfl, rfl, rfl, rfl⟩
theorem Fail_raw (w : Value) (s : G_algebra_MakerR) (e : Int) : FunH gl Tryd.prog 37 [mp w, .v e] [.ob w s] (fun r Hs => Hs = [.ob w { s with e := if s.e = 0 then e else s.e }]) := by
  refine FunH.intro Tryd.func37 rfl (by kernel_rfl) 13 rfl rfl _ rfl _ rfl fun C hC hG => ?_
  refine .seq ?_
  refine .region rfl ?_
  refine .p (.move (.t rfl) (.p (.nilCheckL (.t rfl) (.p (.fldW G_algebra_MakerR.l1 fd75_1 rfl (.t rfl) (.p (.ldF (fun x => x.e) ty35 (.t rfl) .z (fun _ => rfl) (.p (.eqlI (.t rfl) (.i rfl) ?_)))))))))
  refine .nil ?_
  refine .condP (.t rfl) (fun hc8 => ?_) (fun hc8 => ?_)
  · refine .region rfl ?_
    refine .p (.move (.t rfl) (.p (.move (.t rfl) (.p (.nilCheckL (.t rfl) (.p (.fldW G_algebra_MakerR.l1 fd75_1 rfl (.t rfl) (.n (.stF (fun y x => { x with e := y }) ty35 (.t rfl) (.t rfl) .z (fun _ _ => rfl) ?_)))))))))
    refine .nil ?_
    refine ⟨_, .r0 rfl , ?_⟩
    have h8 : s.e = 0 := hc8
    rw [if_pos h8]; rfl
  · refine .skip ?_
    refine ⟨_, .r0 rfl , ?_⟩
    have h8 : ¬ s.e = 0 := hc8
    rw [if_neg h8]; rfl
def mkMac (a : Alg) (e : Int) (k : Tag) (m : List UInt8) : Tag × Alg × Int := if e ≠ 0 then (default, a, e) else ((algMac a k m).2.1, if (algMac a k m).2.2 = 0 then (algMac a k m).1 else a, (algMac a k m).2.2)
theorem mkMac_err {a : Alg} {e : Int} {k : Tag} {m : List UInt8} (h : e ≠ 0) : mkMac a e k m = (default, a, e) := by unfold mkMac; rw [if_pos h]
theorem mkMac_of {a : Alg} {e : Int} {k : Tag} {m : List UInt8} (h : e = 0) {r} (h2 : algMac a k m = r) : mkMac a e k m = (r.2.1, if r.2.2 = 0 then r.1 else a, r.2.2) := by unfold mkMac; rw [if_neg (by omega), h2]
theorem idx_lt {α : Type} {l : List α} {p : α → Bool} (h : 0 ≤ idx l p) : idx l p < l.length := by
  unfold idx at *; split at h <;> split <;> omega
theorem idx_get {α : Type} {l : List α} {p : α → Bool} (h : 0 ≤ idx l p) (h2 : (idx l p).toNat < l.length) : l.find? p = some l[(idx l p).toNat] := by
  have h3 : l.findIdx p < l.length := by unfold idx at h; split at h <;> omega
  have h4 : (idx l p).toNat = l.findIdx p := by unfold idx; rw [if_pos h3]; rfl
  simp only [h4]
  exact List.find?_eq_some_iff_getElem.2 ⟨List.findIdx_getElem (w := h3), _, h3, rfl, fun j hj => by simpa using List.not_of_lt_findIdx hj⟩
theorem idx_neg {α : Type} {l : List α} {p : α → Bool} (h : ¬ 0 ≤ idx l p) : l.find? p = none := by
  unfold idx at h
  split at h
  · omega
  · next h3 => exact List.find?_eq_none.2 fun x hx hp => h3 (List.findIdx_lt_length_of_exists ⟨x, hx, hp⟩)
theorem algMac_at {a : Alg} {k : Tag} {m : List UInt8} (h : ¬ 4096 < m.length) (hi : 0 ≤ idx a.Macs (macEq k m)) (h2 : (idx a.Macs (macEq k m)).toNat < a.Macs.length) : algMac a k m = (a, a.Macs[(idx a.Macs (macEq k m)).toNat].Tag, 0) := by
  unfold algMac algFind; rw [if_neg h, idx_get hi h2]
theorem Mac_raw (w : Value) (a : Alg) (e : Int) (um ub : Value) (B : Blk) (k : Tag) (m : List UInt8) (hl : a.Macs.length ≤ 1000000) : FunH gl Tryd.prog 20 [mp w, .v k, .v m] [.ob w (rawMk a e um ub), gsM um a, B]
    (fun r Hs => ∃ um', r = .v (mkMac a e k m).1 ∧ Hs = [.ob w (rawMk (mkMac a e k m).2.1 (mkMac a e k m).2.2 um' ub), gsM um' (mkMac a e k m).2.1, B]) := by
  refine FunH.introS Tryd.func20 rfl (by kernel_rfl) 80 rfl rfl _ rfl _ rfl fun C hC hG => ?_
  refine .seq ?_
  have hr0 : (rawMk a e um ub).a.Fresh = a.Fresh := rfl
  refine .region rfl ?_
  refine .h (.box (.t rfl) fun b4 => .h (.alloc ty28 fun b6 => ?_))
  refine .nil ?_
  refine .seq ?_
  refine .seq ?_
  refine .frzOb hC (.s .z) ?_
  refine .asP 4 rfl (.s .z) ?_
  refine .region rfl ?_
  refine .p (.move (.t rfl) (.p (.len Tryd.underlying23 (.t rfl) (.p (.gtr (.t rfl) (.i rfl) ?_)))))
  refine .nil ?_
  refine .condP (.t rfl) (fun hc12 => ?_) (fun hc12 => ?_)
  · refine .region rfl ?_
    refine .p (.move (.t rfl) (.h (.callM hG (Fail_raw _ _ _) (.s (.s .z)) (.cons (.t rfl) (.cons (.i rfl) .nil)) (by rintro _ _ rfl; exact ⟨_, rfl⟩) fun r14 B14 hr14 => ?_)))
    cases hr14
    refine .nil ?_
    refine .seq ?_
    refine .seq ?_
    refine .region rfl ?_
    refine .p (.move (.t rfl) (.p (.nilCheckL (.t rfl) (.p (.fldW G_algebra_MakerR.l1 fd75_1 rfl (.t rfl) (.p (.ldF (fun x => x.e) ty35 (.t rfl) (.s (.s .z)) (fun _ => rfl) (.p (.neqI (.t rfl) (.i rfl) ?_)))))))))
    refine .nil ?_
    refine .condP (.t rfl) (fun hc19 => ?_) (fun hc19 => (by exfalso; apply hc19; show (if e = 0 then (2 : Int) else e) ≠ 0; split <;> omega))
    refine .seq ?_
    refine .region rfl ?_
    refine .p (.buildA (default : (Arr 32 UInt8)) ty28 ar28 .nil rfl (.n (.stW ty28 (.t rfl) (.t rfl) .z ?_)))
    refine .nil ?_
    refine .ret ?_
    refine ⟨_, .r1 rfl (.cell ty28 rfl .z), ?_⟩
    refine ⟨_, .cons (.s (.s .z)) (.cons (.s (.s (.s .z))) (.cons (.s (.s (.s (.s .z)))) (.nil))), ?_⟩
    by_cases he : e = 0
    · rw [mkMac_of he (algMac_long (by omega))]; exact ⟨um, rfl, by rw [he]; rfl⟩
    · rw [mkMac_err he]; refine ⟨um, rfl, ?_⟩; show Blk.ob w (G_algebra_MakerR.mk _ (if e = 0 then (2 : Int) else e)) :: _ = _; rw [if_neg he]; rfl
  · refine .skip ?_
    refine .seq ?_
    refine .seq ?_
    refine .region rfl ?_
    refine .p (.move (.t rfl) (.p (.nilCheckL (.t rfl) (.p (.fldW G_algebra_MakerR.l1 fd75_1 rfl (.t rfl) (.p (.ldF (fun x => x.e) ty35 (.t rfl) (.s (.s .z)) (fun _ => rfl) (.p (.neqI (.t rfl) (.i rfl) ?_)))))))))
    refine .nil ?_
    refine .condP (.t rfl) (fun hc19 => ?_) (fun hc19 => ?_)
    · refine .seq ?_
      refine .region rfl ?_
      refine .p (.buildA (default : (Arr 32 UInt8)) ty28 ar28 .nil rfl (.n (.stW ty28 (.t rfl) (.t rfl) .z ?_)))
      refine .nil ?_
      refine .ret ?_
      refine ⟨_, .r1 rfl (.cell ty28 rfl .z), ?_⟩
      refine ⟨_, .cons (.s (.s .z)) (.cons (.s (.s (.s .z))) (.cons (.s (.s (.s (.s .z)))) (.nil))), ?_⟩
      have he : e ≠ 0 := hc19
      rw [mkMac_err he]; exact ⟨um, rfl, rfl⟩
    · refine .skip ?_
      refine .seq ?_
      refine .seq ?_
      refine .draw (by kernel_rfl) 9 [[], [(21, 0)], [(22, 1)], [(23, 2)], [(24, 3)], [], [], [(25, 4), (26, 5), (27, 6)], [(28, 7)]] rfl (by kernel_rfl) rfl ?_
      refine ⟨_, OpP.move (.t rfl) rfl, ?_⟩
      refine ⟨_, OpP.nilCheckL (.t rfl) rfl, ?_⟩
      refine ⟨_, OpP.fldW G_algebra_MakerR.l0 fd75_0 rfl (.t rfl) rfl, ?_⟩
      refine ⟨_, OpP.fldL G_api_AlgebraR.l3 fd32_3 rfl (.t rfl) rfl, ?_⟩
      refine ⟨_, OpP.ldR (fun x => x.a.Macs) tyR29 (.t rfl) (.s (.s .z)) (fun _ => rfl) rfl, ?_⟩
      refine ⟨_, OpP.ldP ty28 (.t rfl) rfl, ?_⟩
      refine ⟨_, OpP.move (.t rfl) rfl, ?_⟩
      refine ⟨_, OpP.lend1 hG (find_c _ _ _) (.cons (.gs rfl (.s (.s (.s .z)))) (.cons (.e (.t rfl)) (.cons (.e (.t rfl)) .nil))) (by first | exact .v | exact .t2 .v .v | exact .t3 .v .v .v) rfl, ?_⟩
      refine ⟨_, OpP.assign (.t rfl) rfl, ?_⟩
      show wpB _ _ _ _ _ _ ((7, _) :: (28, _) :: (27, _) :: (26, _) :: (25, _) :: (24, _) :: (23, _) :: (22, _) :: (21, _) :: _) _
      refine .nil ?_
      refine .seq ?_
      refine .region rfl ?_
      refine .p (.move (.t rfl) (.p (.geq (.t rfl) (.i rfl) ?_)))
      refine .nil ?_
      refine .condP (.t rfl) (fun hc30 => ?_) (fun hc30 => ?_)
      · refine .seq ?_
        refine .gsCases (.s (.s (.s .z))) ?_ ?_
        · have hi7 : 0 ≤ idx a.Macs (macEq k m) := hc30
          have hl7 := idx_lt hi7
          refine .region rfl ?_
          refine .p (.move (.t rfl) (.p (.nilCheckL (.t rfl) (.p (.fldW G_algebra_MakerR.l0 fd75_0 rfl (.t rfl) (.p (.fldL G_api_AlgebraR.l3 fd32_3 rfl (.t rfl) (.p (.ldR (fun x => x.a.Macs) tyR29 (.t rfl) (.s (.s .z)) (fun _ => rfl) ?_)))))))))
          refine .p (.move (.t rfl) (.p (.idx ty53 Tryd.underlying29 (.fzC rfl (.s (.s (.s .z)))) (.t rfl) (by first | omega | (simp; done) | (simp; omega) | (simp at *; omega)) (by first | omega | (simp; done) | (simp; omega) | (simp at *; omega)) (.p (.fldPF G_api_Mac.l2 (fun x => x.Tag) fd53_2 rfl (fun _ => rfl) (.t rfl) (.p (.ldP ty28 (.t rfl) (.n (.stW ty28 (.t rfl) (.t rfl) .z ?_)))))))))
          refine .nil ?_
          refine .ret ?_
          refine ⟨_, .r1 rfl (.cell ty28 rfl .z), ?_⟩
          refine ⟨_, .cons (.s (.s .z)) (.gsC (.s (.s (.s .z))) (.cons (.s (.s (.s (.s .z)))) (.nil))), ?_⟩
          have he : e = 0 := by have h9 : ¬ (e ≠ 0) := hc19; omega
          rw [mkMac_of he (algMac_at (by omega) hi7 (by omega))]; exact ⟨um, rfl, by rw [he]; rfl⟩
        · have hi7 : 0 ≤ idx a.Macs (macEq k m) := hc30
          have hl7 := idx_lt hi7
          refine .region rfl ?_
          refine .p (.move (.t rfl) (.p (.nilCheckL (.t rfl) (.p (.fldW G_algebra_MakerR.l0 fd75_0 rfl (.t rfl) (.p (.fldL G_api_AlgebraR.l3 fd32_3 rfl (.t rfl) (.p (.ldR (fun x => x.a.Macs) tyR29 (.t rfl) (.s (.s .z)) (fun _ => rfl) ?_)))))))))
          refine .p (.move (.t rfl) (.p (.idxOwn ty53 Tryd.underlying29 rfl (.s (.s (.s .z))) (.t rfl) (by first | omega | (simp; done) | (simp; omega) | (simp at *; omega)) (by first | omega | (simp; done) | (simp; omega) | (simp at *; omega)) (.p (.fldE G_api_Mac.l2 fd53_2 rfl (.t rfl) (.p (.ldE ty28 (.t rfl) (.s (.s (.s .z))) (by first | omega | (simp; done) | (simp; omega) | (simp at *; omega)) (.n (.stW ty28 (.t rfl) (.t rfl) .z ?_)))))))))
          refine .nil ?_
          refine .ret ?_
          refine ⟨_, .r1 rfl (.cell ty28 rfl .z), ?_⟩
          refine ⟨_, .cons (.s (.s .z)) (.gsO (.s (.s (.s .z))) (.cons (.s (.s (.s (.s .z)))) (.nil))), ?_⟩
          have he : e = 0 := by have h9 : ¬ (e ≠ 0) := hc19; omega
          rw [mkMac_of he (algMac_at (by omega) hi7 (by omega))]; exact ⟨um, rfl, by rw [he]; rfl⟩
      · refine .skip ?_
        refine .seq ?_
        refine .region rfl ?_
        refine .p (.move (.t rfl) (.p (.nilCheckL (.t rfl) (.p (.fldW G_algebra_MakerR.l0 fd75_0 rfl (.t rfl) (.p (.fldL G_api_AlgebraR.l3 fd32_3 rfl (.t rfl) (.p (.ldR (fun x => x.a.Macs) tyR29 (.t rfl) (.s (.s .z)) (fun _ => rfl) ?_)))))))))
        refine .p (.lenGS Tryd.underlying29 rfl (.s (.s (.s .z))) (.p (.add (.t rfl) (.i rfl) (by first | omega | (simp; done) | (simp; omega) | (simp at *; omega)) (by first | omega | (simp; done) | (simp; omega) | (simp at *; omega)) (.p (.assign (.t rfl) ?_)))))
        refine .nil ?_
        refine .seq ?_
        refine .seq ?_
        refine .region rfl ?_
        refine .p (.move (.t rfl) (.p (.gtr (.t rfl) (.i rfl) ?_)))
        refine .nil ?_
        refine .condP (.t rfl) (fun hc48 => ?_) (fun hc48 => ?_)
        · refine .seq ?_
          refine .region rfl ?_
          refine .p (.move (.t rfl) (.h (.callM hG (Fail_raw _ _ _) (.s (.s .z)) (.cons (.t rfl) (.cons (.i rfl) .nil)) (by rintro _ _ rfl; exact ⟨_, rfl⟩) fun r50 B50 hr50 => ?_)))
          cases hr50
          refine .nil ?_
          refine .seq ?_
          refine .region rfl ?_
          refine .p (.buildA (default : (Arr 32 UInt8)) ty28 ar28 .nil rfl (.n (.stW ty28 (.t rfl) (.t rfl) .z ?_)))
          refine .nil ?_
          refine .ret ?_
          refine ⟨_, .r1 rfl (.cell ty28 rfl .z), ?_⟩
          refine ⟨_, .cons (.s (.s .z)) (.cons (.s (.s (.s .z))) (.cons (.s (.s (.s (.s .z)))) (.nil))), ?_⟩
          have he : e = 0 := by have h9 : ¬ (e ≠ 0) := hc19; omega
          have hf := idx_neg hc30
          rw [mkMac_of he (algMac_full (by omega) hf (by simp at hc48; omega))]; exact ⟨um, rfl, by rw [he]; rfl⟩
        · refine .skip ?_
          refine .seq ?_
          refine .region rfl ?_
          refine .p (.move (.t rfl) (.p (.call1 hG (Symbol_c _ _) (.cons (.u8 109 rfl) (.cons (.t rfl) .nil)) (.h (.alloc ty28 fun b9 => .n (.stW ty28 (.t rfl) (.t rfl) .z ?_))))))
          refine .nil ?_
          refine .seq ?_
          refine .seq ?_
          refine .region rfl ?_
          refine .p (.move (.t rfl) (.p (.nilCheckL (.t rfl) (.p (.fldW G_algebra_MakerR.l0 fd75_0 rfl (.t rfl) (.p (.fldL G_api_AlgebraR.l0 fd32_0 rfl (.t rfl) (.p (.ldF (fun x => x.a.Free) ty4 (.t rfl) (.s (.s (.s .z))) (fun _ => rfl) (.p (.not (.t rfl) ?_)))))))))))
          refine .nil ?_
          refine .cond (.t rfl) (fun hc59 => ?_) (fun hc59 => ?_)
          · refine .region rfl ?_
            refine .p (.slArrP (by decide) ar28 (.t rfl) (.p (.move (.t rfl) (.p (.call1 hG (hmacOf_c _ _ (by first | omega | (simp; done) | (simp; omega) | (simp at *; omega)) (by first | omega | (simp; done) | (simp; omega) | (simp at *; omega))) (.cons (.t rfl) (.cons (.t rfl) .nil)) (.n (.stW ty28 (.t rfl) (.t rfl) .z ?_)))))))
            refine .nil ?_
            refine .seq ?_
            refine .drawCF [false, false, false, false, true, false] (by kernel_rfl) 16 [[], [], [(64, 1)], [(65, 2)], [(66, 3)], [(67, 4)], [], [], [(70, 7)], [], [(69, 6), (71, 8), (72, 9)], [(73, 10)], [(68, 5), (74, 11)], [(63, 0)], [(76, 13)], [(77, 14)]] [5, 12] rfl (by kernel_rfl) rfl (by kernel_rfl) (by decide) ?_
            refine ⟨_, fun H => OpP.move (.t rfl) rfl, ?_⟩
            refine ⟨_, fun H => OpP.move (.t rfl) rfl, ?_⟩
            refine ⟨_, fun H => OpP.nilCheckL (.t rfl) rfl, ?_⟩
            refine ⟨_, fun H => OpP.fldW G_algebra_MakerR.l0 fd75_0 rfl (.t rfl) rfl, ?_⟩
            refine ⟨_, fun H => OpP.fldL G_api_AlgebraR.l3 fd32_3 rfl (.t rfl) rfl, ?_⟩
            refine .inl ?_
            refine ⟨_, fun H => OpP.ldP ty28 (.t rfl) rfl, ?_⟩
            refine ⟨_, fun H => OpP.move (.t rfl) rfl, ?_⟩
            refine ⟨_, fun H => OpP.call1 hG (bytesClone_c _ (by first | omega | (simp; done) | (simp; omega) | (simp at *; omega))) (.cons (.t rfl) .nil) rfl, ?_⟩
            refine ⟨_, fun H => OpP.ldW ty28 (.t rfl) (Hole.app .z) rfl, ?_⟩
            refine ⟨_, fun H => OpP.bS3 G_api_Mac.l0 G_api_Mac.l1 G_api_Mac.l2 rfl ty53 fo53 (fun c0 c1 c2 => (⟨c0, c1, c2⟩ : G_api_Mac)) (fun _ _ _ => rfl) rfl rfl rfl rfl (.t rfl) (.t rfl) (.t rfl) rfl, ?_⟩
            refine ⟨_, fun H => OpP.buildSliceF (α := G_api_Mac) ty53 Tryd.underlying29 (.cons (.t rfl) .nil) rfl (by decide) rfl, ?_⟩
            refine .inl ?_
            refine ⟨_, fun H => OpP.nilCheckL (.t rfl) rfl, ?_⟩
            refine ⟨_, fun H => OpP.fldW G_algebra_MakerR.l0 fd75_0 rfl (.t rfl) rfl, ?_⟩
            refine ⟨_, fun H => OpP.fldL G_api_AlgebraR.l3 fd32_3 rfl (.t rfl) rfl, ?_⟩
            refine ⟨⟨([], fun k => List.getD [(true, .none_), (true, .none_), (true, .none_), (true, .none_), _, (true, .none_)] k (true, .none_)), rfl⟩, ?_⟩
            refine OpH.ofP (OpP.ldR (fun x => x.a.Macs) tyR29 (.t rfl) (.s (.s (.s .z))) (fun _ => rfl) ?_)
            refine ⟨⟨([], fun k => List.getD [(true, .none_), (true, .none_), (true, .none_), (true, .none_), _, (true, .none_)] k (true, .none_)), rfl⟩, ?_⟩
            refine OpH.appendGS st29 (.inl ⟨_, Tryd.underlying29⟩) rfl (.s (.s (.s (.s .z)))) (.v (.c rfl)) (by first | omega | (simp; done) | (simp; omega) | (simp at *; omega)) (by first | omega | (simp; done) | (simp; omega) | (simp at *; omega)) fun w75 => ?_
            refine ⟨⟨([], fun k => List.getD [(true, .none_), (true, .none_), (true, .none_), (true, .none_), _, (true, .none_)] k (true, .none_)), rfl⟩, ?_⟩
            show wpB _ _ _ _ _ _ ((78, _) :: (77, _) :: (76, _) :: (75, _) :: (74, _) :: (73, _) :: (72, _) :: (71, _) :: (70, _) :: (69, _) :: (68, _) :: (67, _) :: (66, _) :: (65, _) :: (64, _) :: (63, _) :: _) _
            refine .n (.stF (fun y x => { x with a.Macs := y }) tyR29 (.t rfl) (.gs rfl (.s (.s (.s (.s .z))))) (.s (.s (.s .z))) (fun _ _ => rfl) ?_)
            refine .nil ?_
            refine .seq ?_
            refine .region rfl ?_
            refine .p (.ldW ty28 (.t rfl) .z (.n (.stW ty28 (.t rfl) (.t rfl) (.s .z) ?_)))
            refine .nil ?_
            refine .ret ?_
            refine ⟨_, .r1 rfl (.cell ty28 rfl (.s .z)), ?_⟩
            refine ⟨_, .cons (.s (.s (.s .z))) (.cons (.s (.s (.s (.s .z)))) (.cons (.s (.s (.s (.s (.s .z))))) (.nil))), ?_⟩
            have he : e = 0 := by have h9 : ¬ (e ≠ 0) := hc19; omega
            have hf := idx_neg hc30
            rw [mkMac_of he (algMac_new (by omega) hf (by simp at hc48; omega)), newTag_real (show a.Free = false from by have h9 : (!a.Free) = true := hc59; simpa using h9)]; exact ⟨w75, rfl, by rw [he]; rfl⟩
          · refine .skip ?_
            refine .seq ?_
            refine .drawCF [false, false, false, false, true, false] (by kernel_rfl) 16 [[], [], [(64, 1)], [(65, 2)], [(66, 3)], [(67, 4)], [], [], [(70, 7)], [], [(69, 6), (71, 8), (72, 9)], [(73, 10)], [(68, 5), (74, 11)], [(63, 0)], [(76, 13)], [(77, 14)]] [5, 12] rfl (by kernel_rfl) rfl (by kernel_rfl) (by decide) ?_
            refine ⟨_, fun H => OpP.move (.t rfl) rfl, ?_⟩
            refine ⟨_, fun H => OpP.move (.t rfl) rfl, ?_⟩
            refine ⟨_, fun H => OpP.nilCheckL (.t rfl) rfl, ?_⟩
            refine ⟨_, fun H => OpP.fldW G_algebra_MakerR.l0 fd75_0 rfl (.t rfl) rfl, ?_⟩
            refine ⟨_, fun H => OpP.fldL G_api_AlgebraR.l3 fd32_3 rfl (.t rfl) rfl, ?_⟩
            refine .inl ?_
            refine ⟨_, fun H => OpP.ldP ty28 (.t rfl) rfl, ?_⟩
            refine ⟨_, fun H => OpP.move (.t rfl) rfl, ?_⟩
            refine ⟨_, fun H => OpP.call1 hG (bytesClone_c _ (by first | omega | (simp; done) | (simp; omega) | (simp at *; omega))) (.cons (.t rfl) .nil) rfl, ?_⟩
            refine ⟨_, fun H => OpP.ldW ty28 (.t rfl) (Hole.app .z) rfl, ?_⟩
            refine ⟨_, fun H => OpP.bS3 G_api_Mac.l0 G_api_Mac.l1 G_api_Mac.l2 rfl ty53 fo53 (fun c0 c1 c2 => (⟨c0, c1, c2⟩ : G_api_Mac)) (fun _ _ _ => rfl) rfl rfl rfl rfl (.t rfl) (.t rfl) (.t rfl) rfl, ?_⟩
            refine ⟨_, fun H => OpP.buildSliceF (α := G_api_Mac) ty53 Tryd.underlying29 (.cons (.t rfl) .nil) rfl (by decide) rfl, ?_⟩
            refine .inl ?_
            refine ⟨_, fun H => OpP.nilCheckL (.t rfl) rfl, ?_⟩
            refine ⟨_, fun H => OpP.fldW G_algebra_MakerR.l0 fd75_0 rfl (.t rfl) rfl, ?_⟩
            refine ⟨_, fun H => OpP.fldL G_api_AlgebraR.l3 fd32_3 rfl (.t rfl) rfl, ?_⟩
            refine ⟨⟨([], fun k => List.getD [(true, .none_), (true, .none_), (true, .none_), (true, .none_), _, (true, .none_)] k (true, .none_)), rfl⟩, ?_⟩
            refine OpH.ofP (OpP.ldR (fun x => x.a.Macs) tyR29 (.t rfl) (.s (.s (.s .z))) (fun _ => rfl) ?_)
            refine ⟨⟨([], fun k => List.getD [(true, .none_), (true, .none_), (true, .none_), (true, .none_), _, (true, .none_)] k (true, .none_)), rfl⟩, ?_⟩
            refine OpH.appendGS st29 (.inl ⟨_, Tryd.underlying29⟩) rfl (.s (.s (.s (.s .z)))) (.v (.c rfl)) (by first | omega | (simp; done) | (simp; omega) | (simp at *; omega)) (by first | omega | (simp; done) | (simp; omega) | (simp at *; omega)) fun w75 => ?_
            refine ⟨⟨([], fun k => List.getD [(true, .none_), (true, .none_), (true, .none_), (true, .none_), _, (true, .none_)] k (true, .none_)), rfl⟩, ?_⟩
            show wpB _ _ _ _ _ _ ((78, _) :: (77, _) :: (76, _) :: (75, _) :: (74, _) :: (73, _) :: (72, _) :: (71, _) :: (70, _) :: (69, _) :: (68, _) :: (67, _) :: (66, _) :: (65, _) :: (64, _) :: (63, _) :: _) _
            refine .n (.stF (fun y x => { x with a.Macs := y }) tyR29 (.t rfl) (.gs rfl (.s (.s (.s (.s .z))))) (.s (.s (.s .z))) (fun _ _ => rfl) ?_)
            refine .nil ?_
            refine .seq ?_
            refine .region rfl ?_
            refine .p (.ldW ty28 (.t rfl) .z (.n (.stW ty28 (.t rfl) (.t rfl) (.s .z) ?_)))
            refine .nil ?_
            refine .ret ?_
            refine ⟨_, .r1 rfl (.cell ty28 rfl (.s .z)), ?_⟩
            refine ⟨_, .cons (.s (.s (.s .z))) (.cons (.s (.s (.s (.s .z)))) (.cons (.s (.s (.s (.s (.s .z))))) (.nil))), ?_⟩
            have he : e = 0 := by have h9 : ¬ (e ≠ 0) := hc19; omega
            have hf := idx_neg hc30
            rw [mkMac_of he (algMac_new (by omega) hf (by simp at hc48; omega)), newTag_free (show a.Free = true from by have h9 : (!a.Free) = false := hc59; simpa using h9)]; exact ⟨w75, rfl, by rw [he]; rfl⟩
theorem Done_raw (w : Value) (s : G_algebra_MakerR) (B1 B2 : Blk) : FunH gl Tryd.prog 21 [mp w] [.ob w s, B1, B2] (fun r Hs => r = .t2 (.v (if s.e ≠ 0 then default else s.a)) (.v s.e) ∧ Hs = [.ob w s, B1, B2]) := by
  refine FunH.introS Tryd.func21 rfl (by kernel_rfl) 18 rfl rfl _ rfl _ rfl fun C hC hG => ?_
  refine .seq ?_
  refine .region rfl ?_
  refine .h (.alloc tyR32 fun b2 => .p (.assign (.i rfl) ?_))
  refine .nil ?_
  refine .seq ?_
  refine .seq ?_
  refine .region rfl ?_
  refine .p (.move (.t rfl) (.p (.nilCheckL (.t rfl) (.p (.fldW G_algebra_MakerR.l1 fd75_1 rfl (.t rfl) (.p (.ldF (fun x => x.e) ty35 (.t rfl) (.s .z) (fun _ => rfl) (.p (.neqI (.t rfl) (.i rfl) ?_)))))))))
  refine .nil ?_
  refine .condP (.t rfl) (fun hc8 => ?_) (fun hc8 => ?_)
  · refine .seq ?_
    refine .drawCF [true, false, false, false] (by kernel_rfl) 7 [[], [], [(10, 1)], [(11, 2)], [(12, 3)], [(9, 0)], [(13, 4)]] [5] rfl (by kernel_rfl) rfl (by kernel_rfl) (by decide) ?_
    refine ⟨_, fun H => OpP.bS0 (α := G_api_AlgebraR) rfl tyR32 fo32 rfl, ?_⟩
    refine ⟨_, fun H => OpP.move (.t rfl) rfl, ?_⟩
    refine ⟨_, fun H => OpP.nilCheckL (.t rfl) rfl, ?_⟩
    refine ⟨_, fun H => OpP.fldW G_algebra_MakerR.l1 fd75_1 rfl (.t rfl) rfl, ?_⟩
    refine ⟨_, fun H => OpP.ldF (fun x => x.e) ty35 (.t rfl) (Hole.app (.s .z)) (fun _ => rfl) rfl, ?_⟩
    refine .inl ?_
    refine ⟨_, fun H => OpP.assign (.t rfl) rfl, ?_⟩
    refine ⟨⟨([], fun k => List.getD [_, (true, .none_), (true, .none_), (true, .none_)] k (true, .none_)), rfl⟩, ?_⟩
    refine OpH.stW tyR32 (.t rfl) (.t rfl) .z ?_
    refine ⟨⟨([], fun k => List.getD [_, (true, .none_), (true, .none_), (true, .none_)] k (true, .none_)), rfl⟩, ?_⟩
    show wpB _ _ _ _ _ _ ((3, _) :: (13, _) :: (12, _) :: (11, _) :: (10, _) :: (9, _) :: _) _
    refine .nil ?_
    refine .ret ?_
    refine ⟨_, .r2 rfl (.cell tyR32 rfl .z) (.tmp rfl), ?_⟩
    refine ⟨_, .cons (.s .z) (.cons (.s (.s .z)) (.cons (.s (.s (.s .z))) (.nil))), ?_⟩
    rw [if_pos hc8]; exact ⟨rfl, rfl⟩
  · refine .skip ?_
    refine .seq ?_
    refine .region rfl ?_
    refine .p (.move (.t rfl) (.p (.nilCheckL (.t rfl) (.p (.fldW G_algebra_MakerR.l0 fd75_0 rfl (.t rfl) (.p (.ldF (fun x => x.a) tyR32 (.t rfl) (.s .z) (fun _ => rfl) (.n (.stW tyR32 (.t rfl) (.t rfl) .z (.p (.assign (.i rfl) ?_)))))))))))
    refine .nil ?_
    refine .ret ?_
    refine ⟨_, .r2 rfl (.cell tyR32 rfl .z) (.tmp rfl), ?_⟩
    refine ⟨_, .cons (.s .z) (.cons (.s (.s .z)) (.cons (.s (.s (.s .z))) (.nil))), ?_⟩
    rw [if_neg hc8, show s.e = 0 by omega]; exact ⟨rfl, rfl⟩
theorem mkMac_boxes (a : Alg) (e : Int) (k : Tag) (m : List UInt8) : (mkMac a e k m).2.1.Boxes = a.Boxes := by
  unfold mkMac algMac; split
  · rfl
  · split
    · rfl
    · split
      · rfl
      · split <;> rfl
theorem Mac_mk (w : Value) (x : MkU) (k : Tag) (m : List UInt8) (hl : x.a.Macs.length ≤ 1000000) : FunH gl Tryd.prog 20 [mp w, .v k, .v m] [.usr w x] (fun r Hs => ∃ x' : MkU, Hs = [.usr w x'] ∧ r = .v (mkMac x.a x.e k m).1 ∧ x'.a = (mkMac x.a x.e k m).2.1 ∧ x'.e = (mkMac x.a x.e k m).2.2) :=
  FunH.mk (post := fun r x' => r = .v (mkMac x.a x.e k m).1 ∧ x'.a = (mkMac x.a x.e k m).2.1 ∧ x'.e = (mkMac x.a x.e k m).2.2)
    ((Mac_raw w x.a x.e x.um x.ub (gsB x.ub x.a) k m hl).mono fun r Hs ⟨um', h1, h2⟩ => ⟨⟨_, _, um', x.ub⟩, by rw [h2]; unfold MkU.bs gsB; rw [mkMac_boxes], h1, rfl, rfl⟩)
theorem Done_mk (w : Value) (x : MkU) : FunH gl Tryd.prog 21 [mp w] [.usr w x] (fun r Hs => ∃ x' : MkU, Hs = [.usr w x'] ∧ r = .t2 (.v (if x.e ≠ 0 then default else rawAlg x.a x.um x.ub)) (.v x.e) ∧ x' = x) :=
  FunH.mk (post := fun r x' => r = .t2 (.v (if x.e ≠ 0 then default else rawAlg x.a x.um x.ub)) (.v x.e) ∧ x' = x)
    ((Done_raw w (rawMk x.a x.e x.um x.ub) (gsM x.um x.a) (gsB x.ub x.a)).mono fun r Hs ⟨h1, h2⟩ => ⟨x, h2, h1, rfl⟩)
theorem mkDoneB {P : Program} {C : Ctx} {N : Nat} {σ : AEnv} {H : AHeap} {ops : Array Oper} {Q : Exit → AEnv → AHeap → Prop} {os : List Oper} (hC : Ctx.Ok C) (t : Nat) {w : Value} {x : MkU} {F : Bool × Blk → AHeap} (ht : lookA σ t = some (.v (if x.e ≠ 0 then default else rawAlg x.a x.um x.ub))) (hH : Hole H (true, .usr w x) F)
    (k : wpB P C N ops Q os ((t, .v (if x.e ≠ 0 then default else x.a)) :: σ) (F (true, .fz w .any))) : wpB P C N ops Q os σ H := fun ρ I L hs => by
  obtain ⟨i, X, h1, h2, h3⟩ := hH.get hs.heap
  refine .freeze i h1 (frz_ok hC h2) fun J hle hp => k ρ J _ ⟨fun s b hb => ?_, h3 J _ [] hle ⟨⟨rfl, trivial⟩, by simp⟩, hs.im0.trans hle⟩
  obtain ⟨L0, rfl, X0, R0, rfl, g0, X1, R1, rfl, g1, X2, R2, rfl, g2, g3⟩ := h2.1
  have f1 := gs_frz g1 hle (fun p hq => hp p (by simp [hq]))
  have f2 := gs_frz g2 hle (fun p hq => hp p (by simp [hq]))
  rw [lookA_cons] at hb
  by_cases e : t = s
  · subst e; simp only [if_true] at hb; cases hb
    obtain ⟨u, h4, h5⟩ := hs.env t _ ht
    refine ⟨u, h4, ?_⟩
    by_cases he : x.e ≠ 0
    · rw [if_pos he] at h5 ⊢
      exact rawAlg_to default _ _ J u (h5.mono hle) ⟨_, ⟨_, rfl, [], Sl.nil J _, rfl⟩, rfl⟩ ⟨_, ⟨_, rfl, [], Sl.nil J _, rfl⟩, rfl⟩
    · rw [if_neg he] at h5 ⊢
      exact rawAlg_to x.a _ _ J u (h5.mono hle) f1 f2
  · rw [if_neg e] at hb
    obtain ⟨u, h4, h5⟩ := hs.env s b hb
    exact ⟨u, h4, h5.mono hle⟩
end Go.Proofs.YtdhfibhjfahdcaaDoor
set_option maxRecDepth 1000000
set_option linter.unusedVariables false
set_option linter.unusedSimpArgs false
namespace Go.Proofs.YtdhfibhjfahdcaaDoor
open Go.Fl Go.Ab Go.Mac Go.Sha
theorem algMac_err {a : Alg} {k : Tag} {m : List UInt8} (h : (algMac a k m).2.2 ≠ 0) : algMac a k m = (default, default, (algMac a k m).2.2) := by
  by_cases h1 : 4096 < m.length
  · rw [algMac_long h1]
  · cases h2 : algFind a k m with
    | some x =>
      have e : algMac a k m = (a, x.Tag, 0) := by unfold algMac; rw [if_neg h1, h2]
      rw [e] at h; exact absurd rfl h
    | none =>
      by_cases h3 : 65536 ≤ a.Macs.length
      · rw [algMac_full h1 h2 h3]
      · rw [algMac_new h1 h2 h3] at h; exact absurd rfl h
theorem mkMac_done {a : Alg} {k : Tag} {m : List UInt8} : (if (mkMac a 0 k m).2.2 ≠ 0 then default else (mkMac a 0 k m).2.1) = (algMac a k m).1 ∧ (mkMac a 0 k m).1 = (algMac a k m).2.1 ∧ (mkMac a 0 k m).2.2 = (algMac a k m).2.2 := by
  have e : mkMac a 0 k m = ((algMac a k m).2.1, if (algMac a k m).2.2 = 0 then (algMac a k m).1 else a, (algMac a k m).2.2) := by unfold mkMac; rw [if_neg (by decide)]
  rw [e]
  refine ⟨?_, rfl, rfl⟩
  by_cases h : (algMac a k m).2.2 = 0
  · rw [if_neg (by simpa using h), if_pos h]
  · rw [if_pos (by simpa using h), algMac_err h]
theorem algMac_c (a : Alg) (k : Tag) (m : List UInt8) (hl : a.Macs.length ≤ 1000000) : FunA gl Tryd.prog 8 [.v a, .v k, .v m] (fun r => r = .t3 (.v (algMac a k m).1) (.v (algMac a k m).2.1) (.v (algMac a k m).2.2)) := by
  refine FunA.intro Tryd.func8 rfl (by kernel_rfl) 27 rfl rfl _ rfl fun C hC hG => ?_
  refine .seq ?_
  refine .region rfl ?_
  refine .h (.box (.t rfl) fun b3 => .h (.box (.t rfl) fun b4 => .h (.alloc ty32 fun b6 => .h (.alloc ty28 fun b7 => .p (.assign (.i rfl) ?_)))))
  refine .nil ?_
  refine .seq ?_
  refine .region rfl ?_
  refine .p (.ldW ty32 (.t rfl) (.s (.s (.s .z))) (.h (.call0 hG (Begin_c _) (.cons (.t rfl) .nil) fun r14 Hs14 hr14 => ?_)))
  obtain ⟨w14, x14, rfl, rfl, ha14, he14⟩ := hr14
  show wpB _ _ _ _ _ _ _ ((true, _) :: _)
  refine .p (.assign (.t rfl) ?_)
  refine .nil ?_
  refine .seq ?_
  refine .region rfl ?_
  refine .p (.move (.t rfl) (.p (.ldW ty28 (.t rfl) (.s (.s (.s .z))) (.p (.move (.t rfl) (.h (.callM hG (Mac_mk _ _ _ _ (by rw [ha14]; exact hl)) .z (.cons (.t rfl) (.cons (.t rfl) (.cons (.t rfl) .nil))) (by rintro _ _ ⟨_, rfl, _⟩; exact ⟨_, rfl⟩) fun r18 B18 hr18 => ?_)))))))
  obtain ⟨x18, hB, rfl, ha18, he18⟩ := hr18
  cases hB
  refine .h (.alloc ty28 fun b10 => .n (.stW ty28 (.t rfl) (.t rfl) .z ?_))
  refine .nil ?_
  refine .seq ?_
  refine .region rfl ?_
  refine .p (.move (.t rfl) (.h (.callM hG (Done_mk _ _) (.s .z) (.cons (.t rfl) .nil) (by rintro _ _ ⟨_, rfl, _⟩; exact ⟨_, rfl⟩) fun r21 B21 hr21 => ?_)))
  obtain ⟨x21, hB, rfl, rfl⟩ := hr21
  cases hB
  refine .p (.move (.t rfl) (.p (.ext2_0 (.t rfl) ?_)))
  refine mkDoneB hC 22 rfl (.s .z) ?_
  refine .p (.ext2_1 (.t rfl) (.h (.alloc ty32 fun b11 => .n (.stW ty32 (.t rfl) (.t rfl) .z (.p (.assign (.t rfl) ?_))))))
  refine .nil ?_
  refine .seq ?_
  refine .drawCF [false, false, false, true, true, false, false] (by kernel_rfl) 6 [[], [], [], [(24, 0)], [(25, 1)], [(26, 2)]] [3, 4] rfl (by kernel_rfl) rfl (by kernel_rfl) (by decide) ?_
  refine ⟨_, fun H => OpP.ldW ty32 (.t rfl) (Hole.app .z) rfl, ?_⟩
  refine ⟨_, fun H => OpP.ldW ty28 (.t rfl) (Hole.app (.s .z)) rfl, ?_⟩
  refine ⟨_, fun H => OpP.move (.t rfl) rfl, ?_⟩
  refine .inl ?_
  refine .inl ?_
  refine ⟨_, fun H => OpP.assign (.t rfl) rfl, ?_⟩
  refine ⟨⟨([], fun k => List.getD [(true, .none_), (true, .none_), (true, .none_), _, _, (true, .none_), (true, .none_)] k (true, .none_)), rfl⟩, ?_⟩
  refine OpH.stW ty32 (.t rfl) (.t rfl) (.s (.s (.s (.s .z)))) ?_
  refine ⟨⟨([], fun k => List.getD [(true, .none_), (true, .none_), (true, .none_), _, _, (true, .none_), (true, .none_)] k (true, .none_)), rfl⟩, ?_⟩
  refine OpH.stW ty28 (.t rfl) (.t rfl) (.s (.s (.s .z))) ?_
  refine ⟨⟨([], fun k => List.getD [(true, .none_), (true, .none_), (true, .none_), _, _, (true, .none_), (true, .none_)] k (true, .none_)), rfl⟩, ?_⟩
  show wpB _ _ _ _ _ _ ((8, _) :: (26, _) :: (25, _) :: (24, _) :: _) _
  refine .nil ?_
  refine .ret ?_
  refine ⟨_, .r3 rfl (.cell ty32 rfl (.s (.s (.s (.s .z))))) (.cell ty28 rfl (.s (.s (.s .z)))) (.tmp rfl), ?_⟩
  rw [ha18, he18, ha14, he14, mkMac_done.1, mkMac_done.2.1, mkMac_done.2.2]
theorem algLook_c (a : Alg) (k : Tag) (m : List UInt8) : FunA gl Tryd.prog 9 [.v a, .v k, .v m] (fun r => r = .t2 (.v (algLook a k m).1) (.v (algLook a k m).2)) := by
  refine FunA.intro Tryd.func9 rfl (by kernel_rfl) 32 rfl rfl _ rfl fun C hC hG => ?_
  refine .seq ?_
  refine .region rfl ?_
  refine .h (.box (.t rfl) fun b3 => .h (.box (.t rfl) fun b4 => .h (.alloc ty28 fun b6 => .p (.assign .b ?_))))
  refine .nil ?_
  refine .seq ?_
  refine .seq ?_
  refine .frzOb hC (.s .z) ?_
  refine .asP 4 rfl (.s .z) ?_
  refine .frzOb hC (.s (.s .z)) ?_
  refine .asP 3 rfl (.s (.s .z)) ?_
  refine .region rfl ?_
  refine .p (.fldPF G_api_Algebra.l0 (fun x => x.Free) fd32_0 rfl (fun _ => rfl) (.t rfl) (.p (.ldP ty4 (.t rfl) ?_)))
  refine .nil ?_
  refine .cond (.t rfl) (fun hc10 => ?_) (fun hc10 => ?_)
  · refine .seq ?_
    refine .region rfl ?_
    refine .p (.fldPF G_api_Algebra.l3 (fun x => x.Macs) fd32_3 rfl (fun _ => rfl) (.t rfl) (.p (.ldP ty29 (.t rfl) (.p (.ldP ty28 (.t rfl) (.p (.move (.t rfl) (.p (.call1 hG (find_c _ _ _) (.cons (.t rfl) (.cons (.t rfl) (.cons (.t rfl) .nil))) (.p (.assign (.t rfl) ?_)))))))))))
    refine .nil ?_
    refine .seq ?_
    refine .seq ?_
    refine .region rfl ?_
    refine .p (.move (.t rfl) (.p (.lss (.t rfl) (.i rfl) ?_)))
    refine .nil ?_
    refine .condP (.t rfl) (fun hc17 => ?_) (fun hc17 => ?_)
    · refine .seq ?_
      refine .region rfl ?_
      refine .p (.buildA (default : (Arr 32 UInt8)) ty28 ar28 .nil rfl (.n (.stW ty28 (.t rfl) (.t rfl) .z (.p (.assign .b ?_)))))
      refine .nil ?_
      refine .ret ?_
      refine ⟨_, .r2 rfl (.cell ty28 rfl .z) (.tmp rfl), ?_⟩
      have e : algLook a k m = (default, false) := by unfold algLook algEntry algFind; rw [if_pos hc10, idx_neg (by omega)]
      rw [e]
    · refine .skip ?_
      refine .seq ?_
      have hi7 : 0 ≤ idx a.Macs (macEq k m) := by simp at hc17; omega
      have hl7 := idx_lt hi7
      refine .region rfl ?_
      refine .p (.fldPF G_api_Algebra.l3 (fun x => x.Macs) fd32_3 rfl (fun _ => rfl) (.t rfl) (.p (.ldP ty29 (.t rfl) (.p (.move (.t rfl) (.p (.idx ty53 Tryd.underlying29 (.t rfl) (.t rfl) (by first | omega | (simp; done) | (simp; omega) | (simp at *; omega)) (by first | omega | (simp; done) | (simp; omega) | (simp at *; omega)) (.p (.fldPF G_api_Mac.l2 (fun x => x.Tag) fd53_2 rfl (fun _ => rfl) (.t rfl) (.p (.ldP ty28 (.t rfl) ?_)))))))))))
      refine .n (.stW ty28 (.t rfl) (.t rfl) .z (.p (.assign .b ?_)))
      refine .nil ?_
      refine .ret ?_
      refine ⟨_, .r2 rfl (.cell ty28 rfl .z) (.tmp rfl), ?_⟩
      have e : algLook a k m = (a.Macs[(idx a.Macs (macEq k m)).toNat].Tag, true) := by unfold algLook algEntry algFind; rw [if_pos hc10, idx_get hi7 (by omega)]
      rw [e]
  · refine .skip ?_
    refine .seq ?_
    refine .seq ?_
    refine .region rfl ?_
    refine .p (.move (.t rfl) (.p (.len Tryd.underlying23 (.t rfl) (.p (.gtr (.t rfl) (.i rfl) ?_)))))
    refine .nil ?_
    refine .condP (.t rfl) (fun hc27 => ?_) (fun hc27 => ?_)
    · refine .seq ?_
      refine .region rfl ?_
      refine .p (.buildA (default : (Arr 32 UInt8)) ty28 ar28 .nil rfl (.n (.stW ty28 (.t rfl) (.t rfl) .z (.p (.assign .b ?_)))))
      refine .nil ?_
      refine .ret ?_
      refine ⟨_, .r2 rfl (.cell ty28 rfl .z) (.tmp rfl), ?_⟩
      have e : algLook a k m = (default, false) := by unfold algLook; rw [if_neg (by rw [show a.Free = false from hc10]; decide), if_pos (by omega)]
      rw [e]
    · refine .skip ?_
      refine .seq ?_
      refine .region rfl ?_
      refine .p (.slArrP (by decide) ar28 (.t rfl) (.p (.move (.t rfl) (.p (.call1 hG (hmacOf_c _ _ (by first | omega | (simp; done) | (simp; omega) | (simp at *; omega)) (by first | omega | (simp; done) | (simp; omega) | (simp at *; omega))) (.cons (.t rfl) (.cons (.t rfl) .nil)) (.n (.stW ty28 (.t rfl) (.t rfl) .z (.p (.assign .b ?_)))))))))
      refine .nil ?_
      refine .ret ?_
      refine ⟨_, .r2 rfl (.cell ty28 rfl .z) (.tmp rfl), ?_⟩
      have e : algLook a k m = (hmac k.l m, true) := by unfold algLook; rw [if_neg (by rw [show a.Free = false from hc10]; decide), if_neg (by omega)]
      rw [e]
end Go.Proofs.YtdhfibhjfahdcaaDoor
set_option maxRecDepth 1000000
set_option linter.unusedVariables false
set_option linter.unusedSimpArgs false
namespace Go.Proofs.YtdhfibhjfahdcaaDoor
open Go.Fl Go.Ab Go.Mac Go.Sha
structure AlgOk (a : Alg) (n : Nat) : Prop where
  macs : a.Macs.length ≤ n
  boxes : a.Boxes.length ≤ n
  fresh0 : 0 ≤ a.Fresh
  fresh1 : a.Fresh ≤ n
  tag : ∀ i (h : i < a.Macs.length), a.Macs[i].Message.length ≤ 1000 ∧ a.Macs[i].Tag = (if a.Free then symTag 109 (i + 1 : Nat) else hmac a.Macs[i].Key.l a.Macs[i].Message)
  uniq : ∀ i (h : i < a.Macs.length), a.Macs.find? (macEq a.Macs[i].Key a.Macs[i].Message) = some a.Macs[i]
  box : ∀ i (h : i < a.Boxes.length), a.Boxes[i].Plain.length ≤ 256 ∧ 0 ≤ a.Boxes[i].Nonce ∧ a.Boxes[i].Nonce ≤ 281474976710656 ∧
    a.Boxes[i].Box = (if a.Free then (symTag 98 (i + 1 : Nat)).l ++ List.replicate (a.Boxes[i].Plain.length + 8) 0 else realBox a.Boxes[i].Key a.Boxes[i].Nonce a.Boxes[i].Plain)
theorem AlgOk.new (free : Bool) (seed : Tag) (n : Nat) : AlgOk ⟨free, seed, 0, [], []⟩ n :=
  ⟨Nat.zero_le _, Nat.zero_le _, Int.le_refl _, Int.natCast_nonneg _, fun i h => (by cases h), fun i h => (by cases h), fun i h => (by cases h)⟩
theorem AlgOk.le {a : Alg} {n m : Nat} (h : AlgOk a n) (hm : n ≤ m) : AlgOk a m :=
  ⟨Nat.le_trans h.macs hm, Nat.le_trans h.boxes hm, h.fresh0, by have := h.fresh1; omega, h.tag, h.uniq, h.box⟩
theorem AlgOk.key {a : Alg} {n : Nat} (h : AlgOk a n) (hn : n < 65536) : AlgOk (algKey a).1 (n + 1) := by
  have := h.fresh1
  have := h.fresh0
  unfold algKey
  rw [if_neg (by omega)]
  exact ⟨Nat.le_succ_of_le h.macs, Nat.le_succ_of_le h.boxes, by show 0 ≤ a.Fresh + 1; omega, by show a.Fresh + 1 ≤ ((n + 1 : Nat) : Int); omega, h.tag, h.uniq, h.box⟩
theorem macEq_iff (k : Tag) (m : List UInt8) (x : G_api_Mac) : macEq k m x = true ↔ x.Key = k ∧ x.Message = m := by simp [macEq]
theorem AlgOk.mac {a : Alg} {n : Nat} (h : AlgOk a n) (hn : n < 65536) {k : Tag} {m : List UInt8} (hm : m.length ≤ 1000) : AlgOk (algMac a k m).1 (n + 1) := by
  have h1 := h.macs
  cases hf : algFind a k m with
  | some x =>
    have e : algMac a k m = (a, x.Tag, 0) := by unfold algMac; rw [if_neg (by omega), hf]
    rw [e]; exact h.le (Nat.le_succ _)
  | none =>
    rw [algMac_new (by omega) hf (by omega)]
    have hnone : ∀ x ∈ a.Macs, macEq k m x = false := fun x hx => by
      have := List.find?_eq_none.1 hf x hx
      simpa using this
    refine ⟨by simp; exact h1, Nat.le_succ_of_le h.boxes, h.fresh0, by have := h.fresh1; show a.Fresh ≤ _; omega, fun i hi => ?_, fun i hi => ?_, h.box⟩
    · simp only [List.length_append, List.length_singleton] at hi
      by_cases e : i < a.Macs.length
      · simp only [List.getElem_append_left e]; exact h.tag i e
      · obtain rfl : i = a.Macs.length := by omega
        simp only [List.getElem_concat_length]
        refine ⟨hm, ?_⟩
        unfold newTag
        rw [show ((a.Macs.length + 1 : Nat) : Int) = (a.Macs.length : Int) + 1 by omega]
    · simp only [List.length_append, List.length_singleton] at hi
      by_cases e : i < a.Macs.length
      · simp only [List.getElem_append_left e]
        rw [List.find?_append, h.uniq i e]; rfl
      · obtain rfl : i = a.Macs.length := by omega
        simp only [List.getElem_concat_length]
        have : a.Macs.find? (macEq k m) = none := hf
        rw [List.find?_append, this]
        simp [macEq]
theorem AlgOk.boxed {a : Alg} {n : Nat} (h : AlgOk a n) (hn : n < 65536) {k : Tag} {c : Int} {p : List UInt8} (hc0 : 0 ≤ c) (hc1 : c ≤ 281474976710656) (hp : p.length ≤ 256) : AlgOk (algSeal a k c p).1 (n + 1) := by
  have h1 := h.boxes
  have hr : (decide (c < 0) || decide (281474976710656 < c)) = false := by simp; omega
  cases hf : a.Boxes.find? (sealEq k c p) with
  | some x => rw [algSeal_found hr (by omega) hf]; exact h.le (Nat.le_succ _)
  | none =>
    rw [algSeal_new hr (by omega) hf (by omega)]
    refine ⟨Nat.le_succ_of_le h.macs, by simp; exact h1, h.fresh0, by have := h.fresh1; show a.Fresh ≤ _; omega, h.tag, h.uniq, fun i hi => ?_⟩
    simp only [List.length_append, List.length_singleton] at hi
    by_cases e : i < a.Boxes.length
    · simp only [List.getElem_append_left e]; exact h.box i e
    · obtain rfl : i = a.Boxes.length := by omega
      simp only [List.getElem_concat_length]
      refine ⟨hp, hc0, hc1, ?_⟩
      unfold newBox
      rw [show ((a.Boxes.length + 1 : Nat) : Int) = (a.Boxes.length : Int) + 1 by omega]
theorem AlgOk.boxLe {a : Alg} {n : Nat} (h : AlgOk a n) : ∀ x ∈ a.Boxes, x.Box.length ≤ 1000000 := fun x hx => by
  obtain ⟨i, hi, rfl⟩ := List.getElem_of_mem hx
  obtain ⟨h1, _, _, h2⟩ := h.box i hi
  rw [h2]
  split
  · simp; omega
  · simp [realBox, sealHead, be64_length, streamL_length]; omega
theorem Next_e (w : Value) (d : G_macaroonmade_Deck) (n : Int) (hd : DeckOk d) (h0 : 0 < n) (h1 : n ≤ 4611686018427387904) :
    FunH gl Tryd.prog 14 [dk w, .v n] [.ob w d] (fun r Hs => ∃ v : Int, ∃ d', 0 ≤ v ∧ v < n ∧ DeckOk d' ∧ r = .v v ∧ Hs = [.ob w d']) :=
  (Next_c w d n hd h0 h1).mono fun r Hs ⟨h2, h3⟩ => ⟨_, _, (deckNext_le h0).1, (deckNext_le h0).2, deckNext_ok hd, h2, h3⟩
theorem Algebra_deck_c (w : Value) (d : G_macaroonmade_Deck) (hd : DeckOk d) : FunH gl Tryd.prog 6 [dk w] [.ob w d] (fun r Hs => ∃ a : Alg, ∃ d', AlgOk a 4 ∧ DeckOk d' ∧ r = .v a ∧ Hs = [.ob w d']) := by
  refine FunH.introS Tryd.func6 rfl (by kernel_rfl) 56 rfl rfl _ rfl _ rfl fun C hC hG => ?_
  refine .seq ?_
  refine .region rfl ?_
  refine .h (.alloc ty32 fun b2 => ?_)
  refine .nil ?_
  refine .seq ?_
  refine .region rfl ?_
  refine .p (.move (.t rfl) (.h (.callM hG (Next_e _ _ _ (by assumption) (by first | omega | (simp; done) | (simp; omega) | (simp at *; omega)) (by first | omega | (simp; done) | (simp; omega) | (simp at *; omega))) (.s .z) (.cons (.t rfl) (.cons (.i rfl) .nil)) (by rintro _ _ ⟨_, _, _, _, _, _, rfl⟩; exact ⟨_, rfl⟩) fun r6 B6 hr6 => ?_)))
  obtain ⟨v6, d6, h60, h61, hd6, rfl, hB⟩ := hr6
  cases hB
  refine .p (.eqlI (.t rfl) (.i rfl) (.p (.move (.t rfl) (.h (.callM hG (Tag_deck_c _ _ (by assumption)) (.s .z) (.cons (.t rfl) .nil) (by rintro _ _ ⟨_, _, _, _, rfl⟩; exact ⟨_, rfl⟩) fun r9 B9 hr9 => ?_)))))
  obtain ⟨t9, d9, hd9, rfl, hB⟩ := hr9
  cases hB
  refine .p (.call1 hG (rNew_c _ _) (.cons (.t rfl) (.cons (.t rfl) .nil)) (.h (.alloc ty32 fun b3 => .n (.stW ty32 (.t rfl) (.t rfl) .z ?_))))
  refine .nil ?_
  refine .seq ?_
  refine .seq ?_
  refine .region rfl ?_
  refine .p (.move (.t rfl) (.h (.callM hG (Next_e _ _ _ (by assumption) (by first | omega | (simp; done) | (simp; omega) | (simp at *; omega)) (by first | omega | (simp; done) | (simp; omega) | (simp at *; omega))) (.s (.s .z)) (.cons (.t rfl) (.cons (.i rfl) .nil)) (by rintro _ _ ⟨_, _, _, _, _, _, rfl⟩; exact ⟨_, rfl⟩) fun r12 B12 hr12 => ?_)))
  obtain ⟨v12, d12, h120, h121, hd12, rfl, hB⟩ := hr12
  cases hB
  refine .p (.assign (.t rfl) ?_)
  refine .nil ?_
  refine .block ?_
  refine .loopR (α := Nat × Alg × G_macaroonmade_Deck) [(0, _), (2, _), (3, _)] (fun x R => (4, .v (x.1 : Int)) :: R) (fun x => [(true, .ob (ptr b3 0) x.2.1), (true, .ob (ptr b2 0) (default : Alg)), (false, .ob w x.2.2)]) (fun x => x.1 ≤ 4 ∧ AlgOk x.2.1 (4 - x.1) ∧ DeckOk x.2.2) (fun x => x.1) ((v12.toNat, ⟨decide (v6 = 0), t9, 0, [], []⟩, d12)) (.cons rfl (.cons rfl (.cons rfl (.nil _)))) ?_ (.cons (congrArg (fun q => some (AV.v q)) (by dsimp only; omega)) (.cons rfl (.cons rfl (.cons rfl (.nil _))))) (rfl) fun x hF => ?_
  · exact ⟨by dsimp only; omega, AlgOk.new _ _ _, hd12⟩
  obtain ⟨k, a, e⟩ := x
  obtain ⟨hk, ha, he⟩ := hF
  dsimp only at hk ha he ⊢
  refine .seq ?_
  refine .seq ?_
  refine .region rfl ?_
  refine .p (.move (.t rfl) (.p (.gtr (.t rfl) (.i rfl) ?_)))
  refine .nil ?_
  refine .condP (.t rfl) (fun hc14 => ?_) (fun hc14 => ?_)
  · refine .skip ?_
    refine .seq ?_
    refine .block ?_
    refine .seq ?_
    refine .region rfl ?_
    refine .p (.move (.t rfl) (.h (.callM hG (Next_e _ _ _ (by assumption) (by first | omega | (simp; done) | (simp; omega) | (simp at *; omega)) (by first | omega | (simp; done) | (simp; omega) | (simp at *; omega))) (.s (.s .z)) (.cons (.t rfl) (.cons (.i rfl) .nil)) (by rintro _ _ ⟨_, _, _, _, _, _, rfl⟩; exact ⟨_, rfl⟩) fun r18 B18 hr18 => ?_)))
    obtain ⟨v18, d18, h180, h181, hd18, rfl, hB⟩ := hr18
    cases hB
    refine .nil ?_
    refine .block ?_
    refine .seq ?_
    refine .region rfl ?_
    refine .p (.eqlI (.t rfl) (.i rfl) (.p (.assign (.t rfl) ?_)))
    refine .nil ?_
    refine .condP (.t rfl) (fun hc19 => ?_) (fun hc19 => ?_)
    · refine .region rfl ?_
      refine .p (.ldW ty32 (.t rfl) .z (.p (.call1 hG (rKey_c _ ha.fresh0) (.cons (.t rfl) .nil) (.p (.move (.t rfl) (.p (.ext3_0 (.t rfl) (.p (.ext3_1 (.t rfl) (.p (.ext3_2 (.t rfl) ?_)))))))))))
      refine .n (.stW ty32 (.t rfl) (.t rfl) .z ?_)
      refine .nil ?_
      refine .region rfl ?_
      refine .p (.move (.t rfl) (.p (.sub (.t rfl) (.i rfl) (by first | omega | (simp; done) | (simp; omega) | (simp at *; omega)) (by first | omega | (simp; done) | (simp; omega) | (simp at *; omega)) (.p (.assign (.t rfl) ?_)))))
      refine .nil ?_
      refine ⟨(k - 1, _, _), .cons (congrArg (fun q => some (AV.v q)) (by dsimp only; omega)) (.cons rfl (.cons rfl (.cons rfl (.nil _)))), rfl, ?_, by dsimp only; omega⟩
      exact ⟨by dsimp only; omega, by dsimp only; first | exact (ha.key (by omega)).le (by omega) | exact (ha.mac (by omega) (by omega)).le (by omega) | exact (ha.boxed (by omega) (by omega) (by omega) (by omega)).le (by omega) | exact ha.le (by omega), by assumption⟩
    · refine .seq ?_
      refine .region rfl ?_
      refine .p (.eqlI (.t rfl) (.i rfl) (.p (.assign (.t rfl) ?_)))
      refine .nil ?_
      refine .condP (.t rfl) (fun hc27 => ?_) (fun hc27 => ?_)
      · refine .drawZ [[false, false, false], [false, false, true], [false, false, true], [true, false, true]] [[false, false, true], [false, false, false], [false, false, false], [], [false, false, true], [], [false, false, true], [false, false, true], [false, false, true], [true, false, true], [true, false, true], []] [[], [], [6, 7, 8, 9, 10], []] [] 3 (by kernel_rfl) 12 [[], [], [], [(31, 1), (32, 2)], [], [(34, 4)], [(30, 0), (33, 3), (35, 5)], [(36, 6)], [(29, 7)], [(29, 7)], [(29, 7)], [(37, 8)]] [3, 5, 11] rfl (by kernel_rfl) rfl (by kernel_rfl) rfl (by decide) (by simp) (fun p hp => by cases hp) (by kernel_rfl) rfl ?_
        refine ⟨_, fun H => OpP.ldW ty32 (.t rfl) (Hole.app .z) rfl, ?_⟩
        refine ⟨_, fun H => OpP.move (.t rfl) rfl, ?_⟩
        refine ⟨_, fun H => OpP.ldW ty32 (.t rfl) (Hole.app .z) rfl, ?_⟩
        refine .inl ?_
        refine ⟨_, fun H => OpP.move (.t rfl) rfl, ?_⟩
        refine .inl ?_
        refine .inl ?_
        refine .inl ?_
        refine .inl ?_
        refine .inl ?_
        refine .inl ?_
        refine .inl ?_
        refine ⟨rfl, ?_⟩
        refine ⟨⟨fun k => List.getD [(true, .none_), (true, .none_), (true, .none_)] k (true, .none_), rfl⟩, fun Ys9 => ?_⟩
        refine OpH.callM hG (Known_deck_c _ _ _ (by assumption) (by have := ha.macs; omega) (by have := ha.boxes; omega)) (Hole.app (Hole.app (.s (.s .z)))) (.cons (.t rfl) (.cons (.t rfl) .nil)) (by rintro _ _ ⟨_, _, _, _, rfl⟩; exact ⟨_, rfl⟩) fun r33 B33 hr33 => ?_
        obtain ⟨t33, d33, hd33, rfl, hB⟩ := hr33
        cases hB
        refine ⟨[], _, rfl, ?_⟩
        refine ⟨⟨fun k => List.getD [(true, .none_), (true, .none_), _] k (true, .none_), rfl⟩, fun Ys9 => ?_⟩
        refine OpH.callM hG (Bytes_deck_c _ _ _ (by assumption) (by first | omega | (simp; done) | (simp; omega) | (simp at *; omega)) (by first | omega | (simp; done) | (simp; omega) | (simp at *; omega))) (Hole.app (Hole.app (.s (.s .z)))) (.cons (.t rfl) (.cons (.i rfl) .nil)) (by rintro _ _ ⟨_, _, _, _, _, rfl⟩; exact ⟨_, rfl⟩) fun r35 B35 hr35 => ?_
        obtain ⟨l35, hl35, d35, hd35, rfl, hB⟩ := hr35
        cases hB
        refine ⟨[], _, rfl, ?_⟩
        refine ⟨_, fun H => OpP.call1 hG (rMac_c _ _ _) (.cons (.t rfl) (.cons (.t rfl) (.cons (.t rfl) .nil))) rfl, ?_⟩
        refine ⟨_, fun H => OpP.move (.t rfl) rfl, ?_⟩
        refine ⟨_, fun H => OpP.ext3_0 (.t rfl) rfl, ?_⟩
        refine ⟨_, fun H => OpP.ext3_1 (.t rfl) rfl, ?_⟩
        refine ⟨_, fun H => OpP.ext3_2 (.t rfl) rfl, ?_⟩
        refine ⟨⟨fun k => List.getD [(true, .none_), (true, .none_), _] k (true, .none_), rfl⟩, fun Ys9 => ?_⟩
        refine OpH.stW ty32 (.t rfl) (.t rfl) (Hole.app (Hole.app .z)) ?_
        refine ⟨[], _, rfl, ?_⟩
        refine ⟨⟨fun k => List.getD [_, (true, .none_), _] k (true, .none_), rfl⟩, fun ws9 => ?_⟩
        refine ⟨⟨fun k => List.getD [_, (true, .none_), _] k (true, .none_), rfl⟩, fun _ => ?_⟩
        show wpB _ _ _ _ _ _ ((39, _) :: (38, _) :: (37, _) :: (29, _) :: (36, _) :: (35, _) :: (34, _) :: (33, _) :: (32, _) :: (31, _) :: (30, _) :: _) _
        refine .nil ?_
        refine .region rfl ?_
        refine .p (.move (.t rfl) (.p (.sub (.t rfl) (.i rfl) (by first | omega | (simp; done) | (simp; omega) | (simp at *; omega)) (by first | omega | (simp; done) | (simp; omega) | (simp at *; omega)) (.p (.assign (.t rfl) ?_)))))
        refine .nil ?_
        refine ⟨(k - 1, _, _), .cons (congrArg (fun q => some (AV.v q)) (by dsimp only; omega)) (.cons rfl (.cons rfl (.cons rfl (.nil _)))), rfl, ?_, by dsimp only; omega⟩
        exact ⟨by dsimp only; omega, by dsimp only; first | exact (ha.key (by omega)).le (by omega) | exact (ha.mac (by omega) (by omega)).le (by omega) | exact (ha.boxed (by omega) (by omega) (by omega) (by omega)).le (by omega) | exact ha.le (by omega), by assumption⟩
      · refine .seq ?_
        refine .region rfl ?_
        refine .p (.eqlI (.t rfl) (.i rfl) (.p (.assign (.t rfl) ?_)))
        refine .nil ?_
        refine .condP (.t rfl) (fun hc40 => ?_) (fun hc40 => ?_)
        · refine .drawZ [[false, false, false], [false, false, true], [false, false, true], [false, false, true], [true, false, true]] [[false, false, true], [false, false, false], [false, false, false], [], [false, false, true], [], [false, false, true], [], [false, false, true], [false, false, true], [false, false, true], [true, false, true], [true, false, true], []] [[], [], [], [8, 9, 10, 11, 12], []] [] 4 (by kernel_rfl) 14 [[], [], [], [(44, 1), (45, 2)], [], [(47, 4)], [], [(49, 6)], [(43, 0), (46, 3), (48, 5), (50, 7)], [(51, 8)], [(42, 9)], [(42, 9)], [(42, 9)], [(52, 10)]] [3, 5, 7, 13] rfl (by kernel_rfl) rfl (by kernel_rfl) rfl (by decide) (by simp) (fun p hp => by cases hp) (by kernel_rfl) rfl ?_
          refine ⟨_, fun H => OpP.ldW ty32 (.t rfl) (Hole.app .z) rfl, ?_⟩
          refine ⟨_, fun H => OpP.move (.t rfl) rfl, ?_⟩
          refine ⟨_, fun H => OpP.ldW ty32 (.t rfl) (Hole.app .z) rfl, ?_⟩
          refine .inl ?_
          refine ⟨_, fun H => OpP.move (.t rfl) rfl, ?_⟩
          refine .inl ?_
          refine ⟨_, fun H => OpP.move (.t rfl) rfl, ?_⟩
          refine .inl ?_
          refine .inl ?_
          refine .inl ?_
          refine .inl ?_
          refine .inl ?_
          refine .inl ?_
          refine .inl ?_
          refine ⟨rfl, ?_⟩
          refine ⟨⟨fun k => List.getD [(true, .none_), (true, .none_), (true, .none_)] k (true, .none_), rfl⟩, fun Ys11 => ?_⟩
          refine OpH.callM hG (Known_deck_c _ _ _ (by assumption) (by have := ha.macs; omega) (by have := ha.boxes; omega)) (Hole.app (Hole.app (.s (.s .z)))) (.cons (.t rfl) (.cons (.t rfl) .nil)) (by rintro _ _ ⟨_, _, _, _, rfl⟩; exact ⟨_, rfl⟩) fun r46 B46 hr46 => ?_
          obtain ⟨t46, d46, hd46, rfl, hB⟩ := hr46
          cases hB
          refine ⟨[], _, rfl, ?_⟩
          refine ⟨⟨fun k => List.getD [(true, .none_), (true, .none_), _] k (true, .none_), rfl⟩, fun Ys11 => ?_⟩
          refine OpH.callM hG (Next_e _ _ _ (by assumption) (by first | omega | (simp; done) | (simp; omega) | (simp at *; omega)) (by first | omega | (simp; done) | (simp; omega) | (simp at *; omega))) (Hole.app (Hole.app (.s (.s .z)))) (.cons (.t rfl) (.cons (.i rfl) .nil)) (by rintro _ _ ⟨_, _, _, _, _, _, rfl⟩; exact ⟨_, rfl⟩) fun r48 B48 hr48 => ?_
          obtain ⟨v48, d48, h480, h481, hd48, rfl, hB⟩ := hr48
          cases hB
          refine ⟨[], _, rfl, ?_⟩
          refine ⟨⟨fun k => List.getD [(true, .none_), (true, .none_), _] k (true, .none_), rfl⟩, fun Ys11 => ?_⟩
          refine OpH.callM hG (Bytes_deck_c _ _ _ (by assumption) (by first | omega | (simp; done) | (simp; omega) | (simp at *; omega)) (by first | omega | (simp; done) | (simp; omega) | (simp at *; omega))) (Hole.app (Hole.app (.s (.s .z)))) (.cons (.t rfl) (.cons (.i rfl) .nil)) (by rintro _ _ ⟨_, _, _, _, _, rfl⟩; exact ⟨_, rfl⟩) fun r50 B50 hr50 => ?_
          obtain ⟨l50, hl50, d50, hd50, rfl, hB⟩ := hr50
          cases hB
          refine ⟨[], _, rfl, ?_⟩
          refine ⟨_, fun H => OpP.call1 hG (rSeal_c _ _ _ _ ha.boxLe) (.cons (.t rfl) (.cons (.t rfl) (.cons (.t rfl) (.cons (.t rfl) .nil)))) rfl, ?_⟩
          refine ⟨_, fun H => OpP.move (.t rfl) rfl, ?_⟩
          refine ⟨_, fun H => OpP.ext3_0 (.t rfl) rfl, ?_⟩
          refine ⟨_, fun H => OpP.ext3_1 (.t rfl) rfl, ?_⟩
          refine ⟨_, fun H => OpP.ext3_2 (.t rfl) rfl, ?_⟩
          refine ⟨⟨fun k => List.getD [(true, .none_), (true, .none_), _] k (true, .none_), rfl⟩, fun Ys11 => ?_⟩
          refine OpH.stW ty32 (.t rfl) (.t rfl) (Hole.app (Hole.app .z)) ?_
          refine ⟨[], _, rfl, ?_⟩
          refine ⟨⟨fun k => List.getD [_, (true, .none_), _] k (true, .none_), rfl⟩, fun ws11 => ?_⟩
          refine ⟨⟨fun k => List.getD [_, (true, .none_), _] k (true, .none_), rfl⟩, fun _ => ?_⟩
          show wpB _ _ _ _ _ _ ((54, _) :: (53, _) :: (52, _) :: (42, _) :: (51, _) :: (50, _) :: (49, _) :: (48, _) :: (47, _) :: (46, _) :: (45, _) :: (44, _) :: (43, _) :: _) _
          refine .nil ?_
          refine .region rfl ?_
          refine .p (.move (.t rfl) (.p (.sub (.t rfl) (.i rfl) (by first | omega | (simp; done) | (simp; omega) | (simp at *; omega)) (by first | omega | (simp; done) | (simp; omega) | (simp at *; omega)) (.p (.assign (.t rfl) ?_)))))
          refine .nil ?_
          refine ⟨(k - 1, _, _), .cons (congrArg (fun q => some (AV.v q)) (by dsimp only; omega)) (.cons rfl (.cons rfl (.cons rfl (.nil _)))), rfl, ?_, by dsimp only; omega⟩
          exact ⟨by dsimp only; omega, by dsimp only; first | exact (ha.key (by omega)).le (by omega) | exact (ha.mac (by omega) (by omega)).le (by omega) | exact (ha.boxed (by omega) (by omega) (by omega) (by omega)).le (by omega) | exact ha.le (by omega), by assumption⟩
        · refine .skip ?_
          refine .region rfl ?_
          refine .p (.move (.t rfl) (.p (.sub (.t rfl) (.i rfl) (by first | omega | (simp; done) | (simp; omega) | (simp at *; omega)) (by first | omega | (simp; done) | (simp; omega) | (simp at *; omega)) (.p (.assign (.t rfl) ?_)))))
          refine .nil ?_
          refine ⟨(k - 1, _, _), .cons (congrArg (fun q => some (AV.v q)) (by dsimp only; omega)) (.cons rfl (.cons rfl (.cons rfl (.nil _)))), rfl, ?_, by dsimp only; omega⟩
          exact ⟨by dsimp only; omega, by dsimp only; first | exact (ha.key (by omega)).le (by omega) | exact (ha.mac (by omega) (by omega)).le (by omega) | exact (ha.boxed (by omega) (by omega) (by omega) (by omega)).le (by omega) | exact ha.le (by omega), by assumption⟩
  · refine .exit ?_
    refine .seq ?_
    refine .region rfl ?_
    refine .p (.ldW ty32 (.t rfl) .z (.n (.stW ty32 (.t rfl) (.t rfl) (.s .z) ?_)))
    refine .nil ?_
    refine .ret ?_
    refine ⟨_, .r1 rfl (.cell ty32 rfl (.s .z)), ?_⟩
    refine ⟨_, .cons (.s (.s .z)) (.nil), ?_⟩
    exact ⟨a, _, ha.le (by omega), he, rfl, rfl⟩
end Go.Proofs.YtdhfibhjfahdcaaDoor
set_option maxRecDepth 1000000
set_option linter.unusedVariables false
set_option linter.unusedSimpArgs false
namespace Go.Proofs.YtdhfibhjfahdcaaDoor
open Go.Fl Go.Ab Go.Mac Go.Sha
structure Made (a : Alg) (n : Nat) (k : Tag) (m : List UInt8) (b : Alg) (t : Tag) : Prop where
  mac : algMac a k m = (b, t, 0)
  again : algMac b k m = (b, t, 0)
  look : algLook b k m = (t, true)
  len : b.Macs.length ≤ a.Macs.length + 1
  len2 : a.Macs.length ≤ b.Macs.length
  old : ∀ i (h : i < a.Macs.length), algLook b a.Macs[i].Key a.Macs[i].Message = (a.Macs[i].Tag, true)
  ok : AlgOk b (n + 1)
theorem AlgOk.lookAt {a : Alg} {n : Nat} (h : AlgOk a n) (i : Nat) (hi : i < a.Macs.length) : algLook a a.Macs[i].Key a.Macs[i].Message = (a.Macs[i].Tag, true) := by
  obtain ⟨h1, h2⟩ := h.tag i hi
  unfold algLook
  cases hf : a.Free with
  | true =>
    rw [if_pos rfl]
    unfold algEntry algFind
    rw [h.uniq i hi]
  | false =>
    rw [if_neg (by decide), if_neg (by omega), h2, hf]; rfl
theorem AlgOk.made {a : Alg} {n : Nat} (h : AlgOk a n) (hn : n < 60000) {k : Tag} {m : List UInt8} (hm : m.length ≤ 1000) : ∃ b t, Made a n k m b t := by
  have h1 := h.macs
  have hok := h.mac (by omega) (k := k) hm
  cases hf : algFind a k m with
  | some x =>
    have e : algMac a k m = (a, x.Tag, 0) := by unfold algMac; rw [if_neg (by omega), hf]
    rw [e] at hok
    obtain ⟨i, hi, rfl⟩ := List.getElem_of_mem (List.mem_of_find?_eq_some hf)
    have hx := (macEq_iff k m _).1 (List.find?_some hf)
    have hl := h.lookAt i hi
    rw [hx.1, hx.2] at hl
    exact ⟨a, _, e, e, hl, by omega, by omega, fun j hj => h.lookAt j hj, hok⟩
  | none =>
    have e := algMac_new (a := a) (k := k) (m := m) (by omega) hf (by omega)
    rw [e] at hok
    have hi : a.Macs.length < (a.Macs ++ [(⟨k, m, newTag a k m⟩ : G_api_Mac)]).length := by simp
    have hl := hok.lookAt a.Macs.length hi
    have hu := hok.uniq a.Macs.length hi
    simp only [List.getElem_concat_length] at hl hu
    refine ⟨_, _, e, ?_, hl, by simp, by simp, fun j hj => ?_, hok⟩
    · unfold algMac algFind
      rw [if_neg (by omega), hu]
    · have hj2 : j < (a.Macs ++ [(⟨k, m, newTag a k m⟩ : G_api_Mac)]).length := by simp; omega
      have := hok.lookAt j hj2
      simp only [List.getElem_append_left hj] at this
      exact this
theorem mac_as {a b : Alg} {k t : Tag} {m : List UInt8} {e : Int} (hl : a.Macs.length ≤ 1000000) (h : algMac a k m = (b, t, e)) : FunA gl Tryd.prog 8 [.v a, .v k, .v m] (fun r => r = .t3 (.v b) (.v t) (.v e)) :=
  (algMac_c a k m hl).mono fun r hr => by rw [hr, h]
theorem rMac_as {a b : Alg} {k t : Tag} {m : List UInt8} {e : Int} (h : algMac a k m = (b, t, e)) : FunA gl Tryd.prog 10 [.v a, .v k, .v m] (fun r => r = .t3 (.v b) (.v t) (.v e)) :=
  (rMac_c a k m).mono fun r hr => by rw [hr, h]
theorem look_as {a : Alg} {k t : Tag} {m : List UInt8} {e : Bool} (h : algLook a k m = (t, e)) : FunA gl Tryd.prog 9 [.v a, .v k, .v m] (fun r => r = .t2 (.v t) (.v e)) :=
  (algLook_c a k m).mono fun r hr => by rw [hr, h]
theorem made_c {a : Alg} {n : Nat} (h : AlgOk a n) (hn : n < 60000) (k : Tag) (m : List UInt8) (hm : m.length ≤ 1000) : FunA gl Tryd.prog 8 [.v a, .v k, .v m] (fun r => ∃ b t, r = .t3 (.v b) (.v t) (.v (0 : Int)) ∧ Made a n k m b t) := by
  obtain ⟨b, t, hb⟩ := h.made hn hm (k := k)
  exact (mac_as (by have := h.macs; omega) hb.mac).mono fun r hr => ⟨b, t, hr, hb⟩
theorem short10_c (b : List UInt8) : FunA gl Tryd.prog 4 [.v b] (fun r => ∃ l : List UInt8, l.length ≤ 200 ∧ r = .v l) := by
  refine FunA.intro Tryd.func4 rfl (by kernel_rfl) 8 rfl rfl _ rfl fun C hC hG => ?_
  refine .seq ?_
  refine .region rfl ?_
  refine .p (.assign (.nilS (α := UInt8)) ?_)
  refine .nil ?_
  refine .seq ?_
  refine .region rfl ?_
  refine .p (.move (.t rfl) (.p (.move (.t rfl) (.p (.len Tryd.underlying23 (.t rfl) (.p (.minI (.t rfl) (.i rfl) (.p (.slHi ty5 Tryd.underlying23 (.t rfl) (.t rfl) (by first | omega | (simp; done) | (simp; omega) | (simp at *; omega)) (by first | omega | (simp; done) | (simp; omega) | (simp at *; omega)) (.p (.assign (.t rfl) ?_)))))))))))
  refine .nil ?_
  refine .ret ?_
  refine ⟨_, .r1 rfl (.tmp rfl), ?_⟩
  exact ⟨_, by simp; omega, rfl⟩
def aw0 : Alg := ⟨true, default, 0, [], []⟩
def aw1 (t : Tag) : Alg := ⟨true, default, 0, [⟨t, [120], symTag 109 1⟩], []⟩
theorem aw_1 (t : Tag) : algMac aw0 t [120] = (aw1 t, symTag 109 1, 0) := by
  rw [algMac_new (by decide) rfl (by decide)]; rfl
theorem aw_2 (t : Tag) : algMac (aw1 t) t [120] = (aw1 t, symTag 109 1, 0) := by
  unfold algMac algFind
  rw [if_neg (by decide)]
  have : (aw1 t).Macs.find? (macEq t [120]) = some ⟨t, [120], symTag 109 1⟩ := by simp [aw1, macEq]
  rw [this]
theorem aw_3 (t : Tag) : (algLook (aw1 t) t [121]).2 = false := by
  unfold algLook algEntry algFind
  rw [if_pos (show (aw1 t).Free = true from rfl)]
  have : (aw1 t).Macs.find? (macEq t [121]) = none := by simp [aw1, macEq]
  rw [this]
theorem aw_all (t : Tag) : (decide ((algMac aw0 t [120]).2.2 = 0) && decide ((algMac (algMac aw0 t [120]).1 t [120]).2.2 = 0) && decide ((algMac aw0 t [120]).2.1 = (algMac (algMac aw0 t [120]).1 t [120]).2.1) && decide ((algMac aw0 t [120]).2.1 = symTag 109 1) &&
    decide (((algMac (algMac aw0 t [120]).1 t [120]).1.Macs.length : Int) = 1) && !(algLook (algMac (algMac aw0 t [120]).1 t [120]).1 t [121]).2) = true := by
  rw [aw_1]; simp only []; rw [aw_2]; simp only []; rw [aw_3]
  simp [aw1]
theorem awake10_c : FunA gl Tryd.prog 12 [] (fun r => r = .v true) := by
  refine FunA.intro Tryd.func12 rfl (by kernel_rfl) 62 rfl rfl _ rfl fun C hC hG => ?_
  refine .seq ?_
  refine .region rfl ?_
  refine .p (.assign .b ?_)
  refine .nil ?_
  refine .seq ?_
  refine .region rfl ?_
  refine .p (.buildA (default : (Arr 32 UInt8)) ty28 ar28 .nil rfl (.p (.call1 hG (algNew_c _ _) (.cons .b (.cons (.t rfl) .nil)) (.p (.buildA _ ty28 ar28 (.cons (Lens.idx 0 (by decide)) _ rfl (.u8 1 rfl) .nil) rfl (.h (.buildSlice (α := UInt8) ty5 Tryd.underlying23 (.cons (.u8 120 rfl) .nil) rfl (by decide) fun b13 => .h (.same Tryd.underlying23 Tryd.underlying5 rfl .z (by simp) ?_))))))))
  refine .frzOwn hC .z ?_
  refine .as 14 rfl .z ?_
  refine .p (.call1 hG (algMac_c _ _ _ (by decide)) (.cons (.t rfl) (.cons (.t rfl) (.cons (.t rfl) .nil))) (.p (.move (.t rfl) (.p (.ext3_0 (.t rfl) (.p (.ext3_1 (.t rfl) (.p (.ext3_2 (.t rfl) (.h (.alloc ty32 fun b1 => ?_)))))))))))
  refine .h (.alloc ty28 fun b2 => .n (.stW ty32 (.t rfl) (.t rfl) (.s .z) (.n (.stW ty28 (.t rfl) (.t rfl) .z (.p (.assign (.t rfl) ?_))))))
  refine .nil ?_
  refine .seq ?_
  refine .region rfl ?_
  refine .p (.ldW ty32 (.t rfl) (.s .z) (.p (.buildA _ ty28 ar28 (.cons (Lens.idx 0 (by decide)) _ rfl (.u8 1 rfl) .nil) rfl (.h (.buildSlice (α := UInt8) ty5 Tryd.underlying23 (.cons (.u8 120 rfl) .nil) rfl (by decide) fun b22 => .h (.same Tryd.underlying23 Tryd.underlying5 rfl .z (by simp) ?_))))))
  refine .frzOwn hC .z ?_
  refine .as 23 rfl .z ?_
  refine .p (.call1 hG (algMac_c _ _ _ (by decide)) (.cons (.t rfl) (.cons (.t rfl) (.cons (.t rfl) .nil))) (.p (.move (.t rfl) (.p (.ext3_0 (.t rfl) (.p (.ext3_1 (.t rfl) (.p (.ext3_2 (.t rfl) (.h (.alloc ty32 fun b4 => ?_)))))))))))
  refine .h (.alloc ty28 fun b5 => .n (.stW ty32 (.t rfl) (.t rfl) (.s .z) (.n (.stW ty28 (.t rfl) (.t rfl) .z (.p (.assign (.t rfl) ?_))))))
  refine .nil ?_
  refine .seq ?_
  refine .region rfl ?_
  refine .p (.ldW ty32 (.t rfl) (.s .z) (.p (.buildA _ ty28 ar28 (.cons (Lens.idx 0 (by decide)) _ rfl (.u8 1 rfl) .nil) rfl (.h (.buildSlice (α := UInt8) ty5 Tryd.underlying23 (.cons (.u8 121 rfl) .nil) rfl (by decide) fun b31 => .h (.same Tryd.underlying23 Tryd.underlying5 rfl .z (by simp) ?_))))))
  refine .frzOwn hC .z ?_
  refine .as 32 rfl .z ?_
  refine .p (.call1 hG (algLook_c _ _ _) (.cons (.t rfl) (.cons (.t rfl) (.cons (.t rfl) .nil))) (.p (.move (.t rfl) (.p (.ext2_0 (.t rfl) (.p (.ext2_1 (.t rfl) (.h (.alloc ty28 fun b7 => .n (.stW ty28 (.t rfl) (.t rfl) .z ?_))))))))))
  refine .p (.assign (.t rfl) ?_)
  refine .nil ?_
  refine .seq ?_
  refine .draw (by kernel_rfl) 27 [[], [(36, 0)], [(37, 1)], [], [(39, 3)], [(38, 2), (40, 4)], [(41, 5)], [], [], [(43, 7), (44, 8)], [(42, 6), (45, 9)], [(46, 10)], [], [], [(48, 12), (49, 13)], [(47, 11), (50, 14)], [(51, 15)], [], [(53, 17)], [(54, 18)], [(55, 19)], [(52, 16), (56, 20)], [(57, 21)], [], [(59, 23)], [(58, 22), (60, 24)], [(61, 25)]] rfl (by kernel_rfl) rfl ?_
  refine ⟨_, OpP.move (.t rfl) rfl, ?_⟩
  refine ⟨_, OpP.eqlI (.t rfl) (.i rfl) rfl, ?_⟩
  refine ⟨_, OpP.move (.t rfl) rfl, ?_⟩
  refine ⟨_, ⟨_, _, rfl, rfl, fun hg39 => OpP.move (.t rfl) rfl⟩, ?_⟩
  refine ⟨_, ⟨_, _, rfl, rfl, fun hg40 => OpP.eqlI (.o rfl (beq_iff_eq.2 hg40)) (.i rfl) rfl⟩, ?_⟩
  refine ⟨_, OpP.pickAnd (.t rfl) (fun hp => (.o rfl (beq_iff_eq.2 hp))) rfl, ?_⟩
  refine ⟨_, OpP.move (.t rfl) rfl, ?_⟩
  refine ⟨_, ⟨_, _, rfl, rfl, fun hg43 => OpP.ldW ty28 (.t rfl) (.s (.s (.s (.s (.s .z))))) rfl⟩, ?_⟩
  refine ⟨_, ⟨_, _, rfl, rfl, fun hg44 => OpP.ldW ty28 (.t rfl) (.s (.s .z)) rfl⟩, ?_⟩
  refine ⟨_, ⟨_, _, rfl, rfl, fun hg45 => OpP.eqlA8 Tryd.underlying28 sz5 Tryd.underlying5 gd28 (.o rfl (beq_iff_eq.2 hg45)) (.o rfl (beq_iff_eq.2 hg45)) rfl⟩, ?_⟩
  refine ⟨_, OpP.pickAnd (.t rfl) (fun hp => (.o rfl (beq_iff_eq.2 hp))) rfl, ?_⟩
  refine ⟨_, OpP.move (.t rfl) rfl, ?_⟩
  refine ⟨_, ⟨_, _, rfl, rfl, fun hg48 => OpP.ldW ty28 (.t rfl) (.s (.s (.s (.s (.s .z))))) rfl⟩, ?_⟩
  refine ⟨_, ⟨_, _, rfl, rfl, fun hg49 => OpP.call1 hG (Symbol_c _ _) (.cons (.u8 109 rfl) (.cons (.i rfl) .nil)) rfl⟩, ?_⟩
  refine ⟨_, ⟨_, _, rfl, rfl, fun hg50 => OpP.eqlA8 Tryd.underlying28 sz5 Tryd.underlying5 gd28 (.o rfl (beq_iff_eq.2 hg50)) (.o rfl (beq_iff_eq.2 hg50)) rfl⟩, ?_⟩
  refine ⟨_, OpP.pickAnd (.t rfl) (fun hp => (.o rfl (beq_iff_eq.2 hp))) rfl, ?_⟩
  refine ⟨_, OpP.move (.t rfl) rfl, ?_⟩
  refine ⟨_, ⟨_, _, rfl, rfl, fun hg53 => OpP.fldW G_api_Algebra.l3 fd32_3 rfl (.t rfl) rfl⟩, ?_⟩
  refine ⟨_, ⟨_, _, rfl, rfl, fun hg54 => OpP.ldF (fun x => x.Macs) ty29 (.o rfl (beq_iff_eq.2 hg54)) (.s (.s (.s .z))) (fun _ => rfl) rfl⟩, ?_⟩
  refine ⟨_, ⟨_, _, rfl, rfl, fun hg55 => OpP.len Tryd.underlying29 (.o rfl (beq_iff_eq.2 hg55)) rfl⟩, ?_⟩
  refine ⟨_, ⟨_, _, rfl, rfl, fun hg56 => OpP.eqlI (.o rfl (beq_iff_eq.2 hg56)) (.i rfl) rfl⟩, ?_⟩
  refine ⟨_, OpP.pickAnd (.t rfl) (fun hp => (.o rfl (beq_iff_eq.2 hp))) rfl, ?_⟩
  refine ⟨_, OpP.move (.t rfl) rfl, ?_⟩
  refine ⟨_, ⟨_, _, rfl, rfl, fun hg59 => OpP.move (.t rfl) rfl⟩, ?_⟩
  refine ⟨_, ⟨_, _, rfl, rfl, fun hg60 => OpP.not (.o rfl (beq_iff_eq.2 hg60)) rfl⟩, ?_⟩
  refine ⟨_, OpP.pickAnd (.t rfl) (fun hp => (.o rfl (beq_iff_eq.2 hp))) rfl, ?_⟩
  refine ⟨_, OpP.assign (.t rfl) rfl, ?_⟩
  show wpB _ _ _ _ _ _ ((0, _) :: (61, _) :: (60, _) :: (59, _) :: (58, _) :: (57, _) :: (56, _) :: (55, _) :: (54, _) :: (53, _) :: (52, _) :: (51, _) :: (50, _) :: (49, _) :: (48, _) :: (47, _) :: (46, _) :: (45, _) :: (44, _) :: (43, _) :: (42, _) :: (41, _) :: (40, _) :: (39, _) :: (38, _) :: (37, _) :: (36, _) :: _) _
  refine .nil ?_
  refine .ret ?_
  refine ⟨_, .r1 rfl (.tmp rfl), ?_⟩
  exact congrArg AV.v (aw_all _)
end Go.Proofs.YtdhfibhjfahdcaaDoor
set_option linter.unusedVariables false
namespace Go.Ab
open Go.Fl Go.RowKit
open Rep (rep)
variable {P : Program} {N : Nat} {C : Ctx} {σ : AEnv} {H : AHeap} {K : AV → Prop} {d : Option Nat} {ty : TypeId} {ps : String} {af : Array Edge} {g : Option (Nat × Bool)} {x y : Operand} {T T2 : TypeId}
section clo
variable {C : Ctx} {σ : AEnv} {H : AHeap} {G : Gl} {f : FuncId} {args : Array Operand} {tys : Array TypeId}
end clo
end Go.Ab
set_option linter.unusedVariables false
set_option linter.unusedSimpArgs false
namespace Go.Ab
open Go.Fl Go.RowKit Go.Shelf Go.Proofs
open Rep (rep)
end Go.Ab
set_option maxRecDepth 1000000
set_option linter.unusedVariables false
set_option linter.unusedSimpArgs false
namespace Go.Proofs.YtdhfibhjfahdcaaDoor
open Go.Fl Go.Ab Go.Mac Go.Sha
theorem deckNew_ok (l : List Int) : DeckOk (⟨l, 0⟩ : G_macaroonmade_Deck) := Int.le_refl 0
end Go.Proofs.YtdhfibhjfahdcaaDoor
set_option linter.unusedVariables false
namespace Go.Ab
open Go.Fl Go.RowKit
open Rep (rep)
theorem holeAt {B : Bool × Blk} : ∀ (X Y : AHeap), Hole (X ++ B :: Y) B (fun B' => X ++ B' :: Y)
  | [], _ => .z
  | _ :: X, Y => .s (holeAt X Y)
theorem finA_congr' {a b : List (Nat × AV)} : ∀ (os : List Oper) (k : Nat) (σ : AEnv), (∀ j, k ≤ j → j < k + os.length → lookR a j = lookR b j) → finA a os k σ = finA b os k σ
  | [], _, _, _ => rfl
  | o :: os, k, σ, h => by
    simp only [finA, h k (Nat.le_refl _) (by simp)]
    have h2 : ∀ j, k + 1 ≤ j → j < k + 1 + os.length → lookR a j = lookR b j := fun j h1 h2 => h j (by omega) (by simp; omega)
    split
    · exact finA_congr' os _ _ h2
    · exact finA_congr' os _ _ h2
section
variable {P : Program} {C : Ctx} {N : Nat} {σ : AEnv} {H : AHeap} {E : TypeId} {α : Type} [r0 : Rep α]
def St2 (E : TypeId) (x y : List α) (listed : Array Bool) (cacc : List (Nat × AV)) (i j : Nat) (u : Value) (l : List α) : Prop :=
  listed.getD i false = true ∧ ((listed.getD j false = false ∧ l = x ∧ lookR cacc i = some (.raw u)) ∨ (listed.getD j false = true ∧ l = y ∧ lookR cacc j = some (.raw u)))
structure In2 (H0 : AHeap) (E : TypeId) (xA yA xB yB z : List α) (a0 a1 b0 b1 c : Nat) (listed : Array Bool) (cacc : List (Nat × AV)) (H : AHeap) : Prop where
  keys : ∀ j r, lookR cacc j = some r → j ∈ [a0, a1, b0, b1, c]
  vals : ∀ j, j ∈ [a0, a1, b0, b1, c] → listed.getD j false = true → ∃ r, lookR cacc j = some r
  up : (listed.getD a1 false = true → listed.getD a0 false = true) ∧ (listed.getD b1 false = true → listed.getD b0 false = true) ∧ (listed.getD c false = true → listed.getD a1 false = true ∧ listed.getD b1 false = true)
  heap : (listed.getD a0 false = false ∧ listed.getD b0 false = false ∧ H = H0) ∨
    (listed.getD b0 false = false ∧ ∃ u l, St2 E xA yA listed cacc a0 a1 u l ∧ H = (true, .own E u l) :: H0) ∨
    (listed.getD a0 false = false ∧ ∃ u l, St2 E xB yB listed cacc b0 b1 u l ∧ H = (true, .own E u l) :: H0) ∨
    (listed.getD c false = false ∧ ∃ u l v m, St2 E xA yA listed cacc a0 a1 u l ∧ St2 E xB yB listed cacc b0 b1 v m ∧ (H = (true, .own E u l) :: (true, .own E v m) :: H0 ∨ H = (true, .own E v m) :: (true, .own E u l) :: H0)) ∨
    (listed.getD c false = true ∧ ∃ u v, lookR cacc c = some (.raw u) ∧ lookR cacc b1 = some (.raw v) ∧ (H = (true, .own E u z) :: (true, .own E v yB) :: H0 ∨ H = (true, .own E v yB) :: (true, .own E u z) :: H0))
theorem getD_set {a : Array Bool} {i j : Nat} (h : i < a.size) : (a.setIfInBounds i true).getD j false = if i = j then true else a.getD j false := by
  simp only [Array.getD_eq_getD_getElem?, Array.getElem?_setIfInBounds]
  by_cases e : i = j
  · subst e; simp [h]
  · simp [e]
end
end Go.Ab
set_option linter.unusedVariables false
set_option linter.unusedSimpArgs false
namespace Go.Ab
open Go.Fl Go.RowKit
open Rep (rep)
abbrev Nm := Value × Nat
structure MSt where
  i : Nat
  key : Nat
  R : Nm → AV
  B : Nm → Bool × Blk
structure MSl where
  ini : Bool × Blk
  st : List MSt
def blkS (f : Nat → Bool) (nm : Nat → Nm) : (Bool × Blk) → List MSt → Bool × Blk
  | B, [] => B
  | B, t :: r => blkS f nm (bif f t.i then t.B (nm t.key) else B) r
def endS (nm : Nat → Nm) : (Bool × Blk) → List MSt → Bool × Blk
  | B, [] => B
  | _, t :: r => endS nm (t.B (nm t.key)) r
def allM (sl : List MSl) : List MSt := sl.flatMap MSl.st
def idsM (sl : List MSl) : List Nat := (allM sl).map MSt.i
def heapM (f : Nat → Bool) (nm : Nat → Nm) (sl : List MSl) : AHeap := sl.map fun s => blkS f nm s.ini s.st
def upS (f : Nat → Bool) : List MSt → Prop
  | [] => True
  | t :: r => (f t.i = false → ∀ u ∈ r, f u.i = false) ∧ upS f r
def chkS (ops : Array Oper) (ss : List (List (Nat × Nat))) (n : Nat) (ids pr : List Nat) : Option MSt → List MSt → Bool
  | q, t :: r => Nat.blt t.i n && (match q with | none => Nat.beq t.key t.i | some u => (Nat.beq t.key t.i || Nat.beq t.key u.key) && Region.waitsFor .any ops t.i u.i) &&
      srcFree ss t.i (ids.filter fun j => !(pr.contains j) && (match q with | none => true | some u => !Nat.beq u.i j)) && chkS ops ss n ids pr (some t) r
  | _, [] => true
def promM (full : List (Nat × AV)) (pr : List Nat) : List MSt → Prop
  | [] => True
  | t :: r => (bif pr.contains t.i then ∀ v, lookR full t.i = some (t.R v) else lookR full t.i = none) ∧ promM full pr r
theorem promM.get {full : List (Nat × AV)} {pr : List Nat} : ∀ {l : List MSt}, promM full pr l → ∀ t ∈ l, (pr.contains t.i = true ∧ ∀ v, lookR full t.i = some (t.R v)) ∨ (pr.contains t.i = false ∧ lookR full t.i = none)
  | [], _, t, h => by cases h
  | u :: r, ⟨h1, h2⟩, t, h => by
    rcases List.mem_cons.1 h with rfl | h
    · cases hp : pr.contains t.i with
      | true => rw [hp] at h1; exact .inl ⟨rfl, h1⟩
      | false => rw [hp] at h1; exact .inr ⟨rfl, h1⟩
    · exact h2.get t h
theorem blkS_congr {f g : Nat → Bool} {nm nm' : Nat → Nm} : ∀ {l : List MSt} {B : Bool × Blk}, (∀ u ∈ l, f u.i = g u.i ∧ (f u.i = true → nm u.key = nm' u.key)) → blkS f nm B l = blkS g nm' B l
  | [], _, _ => rfl
  | t :: r, B, h => by
    obtain ⟨h1, h2⟩ := h t (by simp)
    simp only [blkS]
    rw [blkS_congr fun u hu => h u (by simp [hu])]
    congr 1
    rw [← h1]
    cases hf : f t.i with
    | true => simp [h2 hf]
    | false => rfl
theorem blkS_all {f : Nat → Bool} {nm : Nat → Nm} : ∀ {l : List MSt} {B : Bool × Blk}, (∀ u ∈ l, f u.i = true) → blkS f nm B l = endS nm B l
  | [], _, _ => rfl
  | t :: r, B, h => by simp only [blkS, endS]; rw [h t (by simp), blkS_all fun u hu => h u (by simp [hu])]; rfl
theorem blkS_none {f : Nat → Bool} {nm : Nat → Nm} : ∀ {l : List MSt} {B : Bool × Blk}, (∀ u ∈ l, f u.i = false) → blkS f nm B l = B
  | [], _, _ => rfl
  | t :: r, B, h => by simp only [blkS]; rw [h t (by simp), blkS_none fun u hu => h u (by simp [hu])]; rfl
theorem blkS_append {f : Nat → Bool} {nm : Nat → Nm} : ∀ {l m : List MSt} {B : Bool × Blk}, blkS f nm B (l ++ m) = blkS f nm (blkS f nm B l) m
  | [], _, _ => rfl
  | t :: r, m, B => by simp only [List.cons_append, blkS]; exact blkS_append
theorem upS_split {f : Nat → Bool} {t : MSt} : ∀ {p q : List MSt}, upS f (p ++ t :: q) → f t.i = false → (∀ u ∈ q, f u.i = false)
  | [], _, h, ht => h.1 ht
  | _ :: p, _, h, ht => upS_split h.2 ht
theorem upS_pre {f : Nat → Bool} {t : MSt} : ∀ {p q : List MSt}, upS f (p ++ t :: q) → f t.i = true → (∀ u ∈ p, f u.i = true)
  | [], _, _, _, u, hu => by cases hu
  | a :: p, q, h, ht, u, hu => by
    rcases List.mem_cons.1 hu with rfl | hu
    · cases e : f u.i with
      | true => rfl
      | false => have := h.1 e t (by simp); rw [ht] at this; cases this
    · exact upS_pre h.2 ht u hu
theorem upS_of {f : Nat → Bool} : ∀ {p q : List MSt}, (∀ u ∈ p, f u.i = true) → (∀ u ∈ q, f u.i = false) → upS f (p ++ q)
  | [], [], _, _ => trivial
  | [], t :: q, h1, h2 => ⟨fun _ u hu => h2 u (by simp [hu]), upS_of (p := []) (fun u hu => by cases hu) fun u hu => h2 u (by simp [hu])⟩
  | a :: p, q, h1, h2 => ⟨fun e => (by rw [h1 a (by simp)] at e; cases e), upS_of (fun u hu => h1 u (by simp [hu])) h2⟩
theorem upS_congr {f g : Nat → Bool} : ∀ {l : List MSt}, (∀ u ∈ l, f u.i = g u.i) → upS f l → upS g l
  | [], _, _ => trivial
  | t :: r, h, ⟨h1, h2⟩ => ⟨fun e u hu => by rw [← h u (by simp [hu])]; exact h1 (by rw [h t (by simp)]; exact e) u hu, upS_congr (fun u hu => h u (by simp [hu])) h2⟩
def chkK (ops : Array Oper) (ss : List (List (Nat × Nat))) (n : Nat) (ids pr : List Nat) : Option (Nat × Nat) → List (Nat × Nat) → Bool
  | q, t :: r => Nat.blt t.1 n && (match q with | none => Nat.beq t.2 t.1 | some u => (Nat.beq t.2 t.1 || Nat.beq t.2 u.2) && Region.waitsFor .any ops t.1 u.1) &&
      srcFree ss t.1 (ids.filter fun j => !(pr.contains j) && (match q with | none => true | some u => !Nat.beq u.1 j)) && chkK ops ss n ids pr (some t) r
  | _, [] => true
def pairM (t : MSt) : Nat × Nat := (t.i, t.key)
theorem chkK_S {ops : Array Oper} {ss : List (List (Nat × Nat))} {n : Nat} {ids pr : List Nat} : ∀ (l : List MSt) (q : Option MSt), chkK ops ss n ids pr (q.map pairM) (l.map pairM) = chkS ops ss n ids pr q l
  | [], q => by cases q <;> rfl
  | t :: r, q => by
    simp only [List.map_cons, chkK, chkS]
    rw [show (some (pairM t)) = (some t).map pairM from rfl, chkK_S r (some t)]
    cases q <;> rfl
theorem chkS_at {ops : Array Oper} {ss : List (List (Nat × Nat))} {n : Nat} {ids pr : List Nat} {t : MSt} : ∀ {p q : List MSt} {a : Option MSt}, chkS ops ss n ids pr a (p ++ t :: q) = true →
    ∃ b : Option MSt, (b = (match p.getLast? with | some u => some u | none => a)) ∧ t.i < n ∧ (match b with | none => t.key = t.i | some u => (t.key = t.i ∨ t.key = u.key) ∧ Region.waitsFor .any ops t.i u.i = true) ∧
      srcFree ss t.i (ids.filter fun j => !(pr.contains j) && (match b with | none => true | some u => !Nat.beq u.i j)) = true
  | [], q, a, h => by
    simp only [List.nil_append, chkS, Bool.and_eq_true] at h
    refine ⟨a, rfl, by simpa [Nat.blt_eq] using h.1.1.1, ?_, h.1.2⟩
    have h2 := h.1.1.2
    cases a with
    | none => exact Nat.eq_of_beq_eq_true h2
    | some u =>
      simp only [Bool.and_eq_true, Bool.or_eq_true] at h2
      exact ⟨h2.1.imp Nat.eq_of_beq_eq_true Nat.eq_of_beq_eq_true, h2.2⟩
  | [c], q, a, h => by
    simp only [List.cons_append, List.nil_append, chkS, Bool.and_eq_true] at h
    obtain ⟨b, hb, r⟩ := chkS_at (p := []) (a := some c) (t := t) (q := q) (by simp only [List.nil_append, chkS, Bool.and_eq_true]; exact h.2)
    exact ⟨b, hb, r⟩
  | c :: d :: p, q, a, h => by
    simp only [List.cons_append, chkS, Bool.and_eq_true] at h
    obtain ⟨b, hb, r⟩ := chkS_at (p := d :: p) (a := some c) (t := t) (q := q) (by simp only [List.cons_append, chkS, Bool.and_eq_true]; exact h.2)
    refine ⟨b, ?_, r⟩
    rw [hb]
    cases h3 : (d :: p).getLast? with
    | none => simp at h3
    | some u => simp [List.getLast?_cons_cons, h3]
theorem keyL {ops : Array Oper} {ss : List (List (Nat × Nat))} {n : Nat} {ids pr : List Nat} {f : Nat → Bool} : ∀ (r : List MSt) (q : Option MSt), chkS ops ss n ids pr q r = true → upS f r → (∀ u, q = some u → f u.i = true → f u.key = true) → (∀ u, q = some u → ∀ t ∈ r, f t.i = true → f u.i = true) → ∀ t ∈ r, f t.i = true → f t.key = true
  | [], _, _, _, _, _, t, h, _ => by cases h
  | a :: r, q, hc, hu, h1, h2, t, ht, hf => by
    simp only [chkS, Bool.and_eq_true] at hc
    have head : f a.i = true → f a.key = true := fun ha => by
      have h3 := hc.1.1.2
      cases q with
      | none => rw [Nat.eq_of_beq_eq_true h3]; exact ha
      | some u =>
        simp only [Bool.and_eq_true, Bool.or_eq_true] at h3
        rcases h3.1 with h4 | h4
        · rw [Nat.eq_of_beq_eq_true h4]; exact ha
        · rw [Nat.eq_of_beq_eq_true h4]; exact h1 u rfl (h2 u rfl a (by simp) ha)
    rcases List.mem_cons.1 ht with rfl | ht
    · exact head hf
    · refine keyL r (some a) hc.2 hu.2 (fun u e => by cases e; exact head) (fun u e t2 ht2 hf2 => ?_) t ht hf
      cases e
      cases ea : f a.i with
      | true => rfl
      | false => have := hu.1 ea t2 ht2; rw [hf2] at this; cases this
theorem inj_of_nodup {l : List MSt} (h : (l.map MSt.i).Nodup) : ∀ {t u : MSt}, t ∈ l → u ∈ l → t.i = u.i → t = u := by
  induction l with
  | nil => intro t u h; cases h
  | cons a l ih =>
    rw [List.map_cons, List.nodup_cons] at h
    intro t u ht hu e
    rcases List.mem_cons.1 ht with h1 | h1 <;> rcases List.mem_cons.1 hu with h2 | h2
    · rw [h1, h2]
    · exact absurd (show a.i ∈ _ by rw [← h1, e]; exact List.mem_map_of_mem h2) h.1
    · exact absurd (show a.i ∈ _ by rw [← h2, ← e]; exact List.mem_map_of_mem h1) h.1
    · exact ih h.2 h1 h2 e
section
variable {P : Program} {C : Ctx} {N : Nat} {σ : AEnv} {H : AHeap}
theorem Hole.again {H : AHeap} {B B' : Bool × Blk} {F : Bool × Blk → AHeap} (h : Hole H B F) : Hole (F B') B' F := by
  induction h with
  | z => exact .z
  | s h ih => exact .s ih
theorem Hole.self {H : AHeap} {B : Bool × Blk} {F : Bool × Blk → AHeap} (h : Hole H B F) : F B = H := by
  induction h with
  | z => rfl
  | s h ih => exact congrArg _ ih
theorem OpH.frzAfter {o : Oper} {KH : AV → AHeap → Prop} (hC : Ctx.Ok C) {E : TypeId} {α : Type} {r : Rep α} {l : List α} (k : OpH P C N o σ H (fun x H' => ∃ w F, x = .raw w ∧ Hole H' (true, .own E w l) F ∧ KH (.v l) (F (true, .fz w (.v l))))) : OpH P C N o σ H KH := fun ρ I L hs a w0 ha hst => by
  refine Yld.mono (k ρ I L hs a w0 ha hst) ?_
  rintro v w' ⟨J, L', hst, hle, x, H', h1, h2, w, F, rfl, hh, hk⟩
  obtain ⟨i, X, g1, g2, g3⟩ := hh.get h2
  have hst2 := hst.freeze g1 (frz_ok hC g2)
  have hle2 : Le J (J.with X) := Im.with_le (fun p hp => hst.mem.sep p (mem_chunk g1 hp))
  have hp : ∀ p ∈ X, J.with X p.1 = some p.2 := fun p hp => Im.with_mem (nodup_chunk hst.mem.nodup g1) hp
  have hv := freeze_own g2.1 hle2 hp
  cases h1
  exact ⟨_, _, hst2, hle.trans hle2, .v l, _, hv, g3 _ (true, .fz _ (.v l)) [] hle2 ⟨⟨rfl, hv⟩, by simp⟩, hk⟩
def dutT (P : Program) (C : Ctx) (N : Nat) (σ : AEnv) (full : List (Nat × AV)) (ini : Bool × Blk) (t : MSt) (o : Oper) (s : List (Nat × Nat)) : Option MSt → Prop
  | none => ∀ H' F, Hole H' ini F → OpH P C N o (envOf σ full s (opTmps o)) H' (fun r H'' => ∃ v, r = t.R v ∧ H'' = F (t.B v))
  | some q => ∀ v H' F, Hole H' (q.B v) F → OpH P C N o (envOf σ ((q.i, q.R v) :: full) s (opTmps o)) H' (fun r H'' => ∃ v', (t.key = t.i ∨ v' = v) ∧ r = t.R v' ∧ H'' = F (t.B v'))
def dutC (P : Program) (C : Ctx) (N : Nat) (σ : AEnv) (l : List Oper) (ss : List (List (Nat × Nat))) (full : List (Nat × AV)) (ini : Bool × Blk) : Option MSt → List MSt → Prop
  | q, t :: r => (∀ o s, l[t.i]? = some o → ss[t.i]? = some s → o.guard = none ∧ dutT P C N σ full ini t o s q) ∧ dutC P C N σ l ss full ini (some t) r
  | _, [] => True
def dutM (P : Program) (C : Ctx) (N : Nat) (σ : AEnv) (l : List Oper) (ss : List (List (Nat × Nat))) (full : List (Nat × AV)) : List MSl → Prop
  | [] => True
  | s :: r => dutC P C N σ l ss full s.ini none s.st ∧ dutM P C N σ l ss full r
theorem dutM.get {l : List Oper} {ss : List (List (Nat × Nat))} {full : List (Nat × AV)} : ∀ {sl : List MSl}, dutM P C N σ l ss full sl → ∀ s ∈ sl, dutC P C N σ l ss full s.ini none s.st
  | [], _, s, h => by cases h
  | a :: r, ⟨h1, h2⟩, s, h => by
    rcases List.mem_cons.1 h with rfl | h
    · exact h1
    · exact h2.get s h
theorem dutC.at {l : List Oper} {ss : List (List (Nat × Nat))} {full : List (Nat × AV)} {ini : Bool × Blk} {t : MSt} : ∀ {p q : List MSt} {a : Option MSt}, dutC P C N σ l ss full ini a (p ++ t :: q) →
    ∀ o s, l[t.i]? = some o → ss[t.i]? = some s → o.guard = none ∧ dutT P C N σ full ini t o s (match p.getLast? with | some u => some u | none => a)
  | [], q, a, h => h.1
  | [c], q, a, h => dutC.at (p := []) h.2
  | c :: d :: p, q, a, h => by
    intro o s h1 h2
    have := dutC.at (p := d :: p) h.2 o s h1 h2
    rw [List.getLast?_cons_cons]
    cases h3 : (d :: p).getLast? with
    | none => simp at h3
    | some u => rw [h3] at this; exact this
structure InvM (sl : List MSl) (H0 : AHeap) (listed : Array Bool) (cacc : List (Nat × AV)) (H : AHeap) (nm : Nat → Nm) : Prop where
  acc : ∀ t ∈ allM sl, listed.getD t.i false = true → lookR cacc t.i = some (t.R (nm t.key))
  keys : ∀ j r, lookR cacc j = some r → j ∈ idsM sl ∧ listed.getD j false = true
  heap : H = heapM (fun j => listed.getD j false) nm sl ++ H0
  up : ∀ s ∈ sl, upS (fun j => listed.getD j false) s.st
theorem lookR_map {nm : Nat → Nm} : ∀ {l : List MSt}, (l.map MSt.i).Nodup → ∀ t ∈ l, lookR (l.map fun t => (t.i, t.R (nm t.key))) t.i = some (t.R (nm t.key))
  | [], _, t, h => by cases h
  | a :: l, hn, t, h => by
    rw [List.map_cons, List.nodup_cons] at hn
    rw [List.map_cons, lookR_cons]
    rcases List.mem_cons.1 h with rfl | h
    · rw [if_pos rfl]
    · rw [if_neg (show ¬ a.i = t.i from fun e => hn.1 (by rw [e]; exact List.mem_map_of_mem h))]; exact lookR_map hn.2 t h
theorem lookR_mapN {nm : Nat → Nm} {j : Nat} : ∀ {l : List MSt}, j ∉ l.map MSt.i → lookR (l.map fun t => (t.i, t.R (nm t.key))) j = none
  | [], _ => rfl
  | a :: l, hn => by
    rw [List.map_cons, List.mem_cons, not_or] at hn
    rw [List.map_cons, lookR_cons, if_neg (Ne.symm hn.1)]; exact lookR_mapN hn.2
theorem wpA.drawM {Q : Exit → AEnv → AHeap → Prop} {id : Nat} {l : List Oper} (sl : List MSl) (ci pr : List Nat) (sk : List (List (Nat × Nat))) (hm : P.follows .mixedOrders = true) (n : Nat) (ss : List (List (Nat × Nat)))
    (hN : dstOk N l = true) (hB : phiOkC l.toArray n ss = true) (hci : idsM sl = ci) (hsk : sl.map (fun s => s.st.map pairM) = sk) (hnd : ci.Nodup) (hck : sk.all (chkK l.toArray ss n ci pr none) = true)
    (h : chainQ P N C σ (fun _ (q : AHeap) => q ++ H) ci (fun full => promM full pr (allM sl) ∧ dutM P C N σ l ss full sl ∧
      ∀ nm : Nat → Nm, wpB P C N l.toArray Q (l.drop n) (finA (((allM sl).map fun t => (t.i, t.R (nm t.key))) ++ full) (l.take n) 0 σ) ((sl.map fun s => endS nm s.ini s.st) ++ H)) (l.take n) ss 0 []) :
    wpA P C N (.region id l.toArray true) Q σ ((sl.map MSl.ini) ++ H) := by
  subst hci
  obtain ⟨full, ⟨hprom, hdut, hfinal⟩, _, hd⟩ := chainQ_elim (l.take n) ss 0 [] (fun j r hj => by simp [lookR] at hj) h
  have hchk : ∀ s ∈ sl, chkS l.toArray ss n (idsM sl) pr none s.st = true := fun s hs => by
    rw [← chkK_S]
    exact List.all_eq_true.1 hck _ (by rw [← hsk]; exact List.mem_map_of_mem hs)
  have hall : ∀ s ∈ sl, ∀ t ∈ s.st, t ∈ allM sl := fun s hs t ht => List.mem_flatMap.2 ⟨s, hs, ht⟩
  have hids : ∀ t ∈ allM sl, t.i ∈ idsM sl := fun t ht => List.mem_map_of_mem ht
  have hlt : ∀ j ∈ idsM sl, j < n := fun j hj => by
    obtain ⟨t, ht, rfl⟩ := List.mem_map.1 hj
    obtain ⟨s, hs, hts⟩ := List.mem_flatMap.1 ht
    obtain ⟨p, q, e⟩ := List.append_of_mem hts
    have := hchk s hs
    rw [e] at this
    obtain ⟨b, _, h2, _⟩ := chkS_at this
    exact h2
  have hB0 := hB
  simp only [phiOkC, Bool.and_eq_true, Bool.or_eq_true] at hB0
  obtain ⟨⟨⟨⟨⟨hle, hback⟩, hok⟩, hdst⟩, htail⟩, hseq⟩ := hB0
  have hle' : n ≤ l.length := by simpa using Nat.le_of_ble_eq_true hle
  refine wpA.drawG' (ι := AHeap) (fun _ q => q ++ H) hm n ss (idsM sl) hN hB full (fun listed cacc H' => listed.size = l.length ∧ ∃ nm, InvM sl H listed cacc H' nm) ⟨by simp, fun _ => (undef, 0), ?_⟩ ?_ (fun _ _ H' _ inv _ _ _ => ?_) ?_ ?_ ?_
  · have h0 : ∀ j, (Array.replicate l.toArray.size false).getD j false = false := fun j => by
      simp only [Array.getD_eq_getD_getElem?, Array.getElem?_replicate]
      split <;> rfl
    refine ⟨fun t _ e => (by rw [h0] at e; cases e), fun j r e => by simp [lookR] at e, ?_, fun s _ => upS_of (p := []) (fun u hu => by cases hu) fun u _ => h0 _⟩
    congr 1
    unfold heapM
    exact List.map_congr_left fun s _ => (blkS_none fun u _ => h0 _).symm
  · intro i o s hi hic ho hsi
    obtain ⟨r, acc', h1, h2, h3⟩ := hd i o s (by rw [List.getElem?_take, if_pos hi]; exact ho) hsi (by simpa using hic)
    rw [Nat.zero_add] at h1 h3
    refine ⟨r, h1, fun H' => ?_⟩
    have hoi := List.all_eq_true.1 hok i (List.mem_range.2 hi)
    unfold opOkC at hoi
    have ho' : l.toArray[i]? = some o := by simpa using ho
    simp only [ho', hsi, Bool.and_eq_true] at hoi
    have hback' : ∀ j, Region.waitsFor .any l.toArray i j = true → j < i := fun j hw => by
      obtain ⟨e, he, hb, heq⟩ := waits_mem ho' hw
      have hil : i < l.toArray.size := (Array.getElem?_eq_some_iff.1 ho').1
      have h4 := List.all_eq_true.1 hback i (List.mem_range.2 hil)
      simp only [ho', Array.all_eq_true_iff_forall_mem] at h4
      have h5 := h4 e he
      rw [hb] at h5
      have : e.on < i := by simpa [Nat.blt_eq] using h5
      omega
    have henv : ∀ t ∈ opTmps o, ∀ j, srcOf s t = some j → lookR acc' j = lookR full j := fun t ht j hj => by
      have h6 := List.all_eq_true.1 hoi.1 t ht
      unfold readOk at h6
      simp only [hj, Bool.and_eq_true] at h6
      exact h3 j (hback' j h6.2)
    have hdd := h2 H'
    unfold dutyA at hdd ⊢
    rw [← envOf_congr' henv]
    cases hg : o.guard with
    | none => rw [hg] at hdd; exact hdd
    | some p =>
      obtain ⟨g, want⟩ := p
      rw [hg] at hdd
      have h6 := hoi.2
      rw [hg] at h6
      simp only [Bool.and_eq_true] at h6
      simp only at hdd ⊢
      rw [← h3 g (hback' g h6.1.2)]; exact hdd
  · obtain ⟨_, nm, inv⟩ := inv
    exact ⟨_, inv.heap⟩
  · rintro listed cacc H' i ⟨hsz, nm, inv⟩ hni
    have hg : ∀ j, j ∈ idsM sl → (listed.setIfInBounds i true).getD j false = listed.getD j false := fun j hj => getD_set_ne false (fun e => hni (e ▸ hj))
    refine ⟨by simpa using hsz, nm, fun t ht e => inv.acc t ht (by rw [← hg _ (hids t ht)]; exact e), fun j r e => ⟨(inv.keys j r e).1, by rw [hg j (inv.keys j r e).1]; exact (inv.keys j r e).2⟩, ?_, fun s hs => upS_congr (fun u hu => (hg _ (hids u (hall s hs u hu))).symm) (inv.up s hs)⟩
    rw [inv.heap]
    congr 1
    exact List.map_congr_left fun s hs => blkS_congr fun u hu => ⟨(hg _ (hids u (hall s hs u hu))).symm, fun _ => rfl⟩
  · rintro listed cacc H' i o s ⟨hsz, nm, inv⟩ hi hl hs hun hw hltI
    obtain ⟨t, ht, rfl⟩ := List.mem_map.1 hi
    obtain ⟨s0, hs0, hts⟩ := List.mem_flatMap.1 ht
    obtain ⟨X, Y, rfl⟩ := List.append_of_mem hs0
    obtain ⟨p, q, e0⟩ := List.append_of_mem hts
    have hc0 := hchk s0 hs0
    have hu0 := inv.up s0 hs0
    rw [e0] at hc0 hu0
    obtain ⟨b, hb, _, hkey, hsrc⟩ := chkS_at hc0
    have hd0 := hdut.get s0 hs0
    rw [e0] at hd0
    obtain ⟨hgn, hdt⟩ := hd0.at o s hl hs
    rw [← hb] at hdt
    refine ⟨hgn, ?_⟩
    have hpost := upS_split hu0 hun
    have hpre : ∀ u ∈ p, listed.getD u.i false = true := fun u hu => by
      cases hp : p.getLast? with
      | none => rw [List.getLast?_eq_none_iff.1 hp] at hu; cases hu
      | some z =>
        rw [hp] at hb; subst hb
        obtain ⟨p', rfl⟩ : ∃ p', p = p' ++ [z] := by
          obtain ⟨p', h1⟩ := List.getLast?_eq_some_iff.1 hp
          exact ⟨p', h1⟩
        have hz := hw z.i hkey.2
        rcases List.mem_append.1 hu with h1 | h1
        · rw [List.append_assoc] at hu0
          exact upS_pre hu0 hz u h1
        · rw [List.mem_singleton.1 h1]; exact hz
    have hset : ∀ j, (listed.setIfInBounds t.i true).getD j false = if t.i = j then true else listed.getD j false := fun j => getD_set hltI
    have hnt : ∀ {u : MSt}, u ∈ allM (X ++ s0 :: Y) → u.i = t.i → u = t := fun hu e => inj_of_nodup hnd hu ht e
    have hne : ∀ {u : MSt}, u ∈ allM (X ++ s0 :: Y) → u ≠ t → t.i ≠ u.i := fun hu hn e => hn (hnt hu e.symm)
    -- the names ahead
    have hagree : ∀ v', (t.key = t.i ∨ (∃ z, b = some z ∧ v' = nm t.key)) → ∀ u ∈ allM (X ++ s0 :: Y), listed.getD u.i false = true → (if u.key = t.key then v' else nm u.key) = nm u.key := fun v' hv u hu hlu => by
      by_cases e : u.key = t.key
      · rw [if_pos e]
        rcases hv with hv | ⟨z, _, rfl⟩
        · obtain ⟨s1, hs1, hus⟩ := List.mem_flatMap.1 hu
          have h1 := keyL (f := fun j => listed.getD j false) s1.st none (hchk s1 hs1) (inv.up s1 hs1) (fun u e => by cases e) (fun u e => by cases e) u hus hlu
          simp only [e, hv, hun] at h1
          cases h1
        · rw [e]
      · rw [if_neg e]
    have hX : ∀ s1 ∈ X ++ s0 :: Y, (s1 ∈ X ∨ s1 ∈ Y) → ∀ u ∈ s1.st, u ≠ t := fun s1 hs1 hxy u hu e => by
      subst e
      have hn : ((X ++ s0 :: Y).flatMap fun s => s.st.map MSt.i).Nodup := by
        have := hnd
        unfold idsM allM at this
        rwa [List.map_flatMap] at this
      rw [List.flatMap_append, List.flatMap_cons, List.nodup_append] at hn
      obtain ⟨_, h2, h3⟩ := hn
      rw [List.nodup_append] at h2
      rcases hxy with h4 | h4
      · exact h3 u.i (List.mem_flatMap.2 ⟨s1, h4, List.mem_map_of_mem hu⟩) u.i (List.mem_append.2 (.inl (List.mem_map_of_mem hts))) rfl
      · exact h2.2.2 u.i (List.mem_map_of_mem hts) u.i (List.mem_flatMap.2 ⟨s1, h4, List.mem_map_of_mem hu⟩) rfl
    have hst : (s0.st.map MSt.i).Nodup := by
      have hn : ((X ++ s0 :: Y).flatMap fun s => s.st.map MSt.i).Nodup := by
        have := hnd
        unfold idsM allM at this
        rwa [List.map_flatMap] at this
      rw [List.flatMap_append, List.flatMap_cons, List.nodup_append, List.nodup_append] at hn
      exact hn.2.1.1
    have hpq : (∀ u ∈ p, u ≠ t) ∧ (∀ u ∈ q, u ≠ t) := by
      rw [e0, List.map_append, List.map_cons, List.nodup_append, List.nodup_cons] at hst
      exact ⟨fun u hu e => hst.2.2 u.i (List.mem_map_of_mem hu) t.i (by simp) (by rw [e]), fun u hu e => hst.2.1.1 (by rw [← e]; exact List.mem_map_of_mem hu)⟩
    have hpin : ∀ u ∈ p, u ∈ allM (X ++ s0 :: Y) := fun u hu => hall s0 hs0 u (by rw [e0]; simp [hu])
    have hqin : ∀ u ∈ q, u ∈ allM (X ++ s0 :: Y) := fun u hu => hall s0 hs0 u (by rw [e0]; simp [hu])
    -- what stands behind it
    have done : ∀ r v', r = t.R v' → (t.key = t.i ∨ (∃ z, b = some z ∧ v' = nm t.key)) → (∀ r0, lookR full t.i = some r0 → r = r0) ∧ ((listed.setIfInBounds t.i true).size = l.length ∧
        ∃ nm', InvM (X ++ s0 :: Y) H (listed.setIfInBounds t.i true) ((t.i, r) :: cacc) (X.map (fun s => blkS (fun j => listed.getD j false) nm s.ini s.st) ++ (t.B v') :: (Y.map (fun s => blkS (fun j => listed.getD j false) nm s.ini s.st) ++ H)) nm') := by
      rintro r v' rfl hv
      have ha := hagree v' hv
      refine ⟨fun r0 h0 => ?_, by simpa using hsz, fun j => if j = t.key then v' else nm j, fun u hu hlu => ?_, fun j r e => ?_, ?_, fun s1 hs1 => ?_⟩
      · rcases hprom.get t ht with ⟨_, h1⟩ | ⟨_, h1⟩
        · rw [h1 v'] at h0; exact Option.some.inj h0
        · rw [h1] at h0; cases h0
      · rw [lookR_cons]
        by_cases e : u = t
        · subst e; rw [if_pos rfl]; simp
        · rw [if_neg (hne hu e)]
          rw [hset, if_neg (hne hu e)] at hlu
          rw [ha u hu hlu]; exact inv.acc u hu hlu
      · rw [lookR_cons] at e
        by_cases e1 : t.i = j
        · exact ⟨e1 ▸ hi, by rw [hset, if_pos e1]⟩
        · rw [if_neg e1] at e
          rw [hset, if_neg e1]; exact inv.keys j r e
      · unfold heapM
        have hcg : ∀ s1 ∈ X ++ s0 :: Y, (s1 ∈ X ∨ s1 ∈ Y) → blkS (fun j => listed.getD j false) nm s1.ini s1.st = blkS (fun j => (listed.setIfInBounds t.i true).getD j false) (fun j => if j = t.key then v' else nm j) s1.ini s1.st := fun s1 hs1 hxy =>
          blkS_congr fun u hu => ⟨by show _ = Array.getD _ _ _; rw [hset, if_neg (hne (hall s1 hs1 u hu) (hX s1 hs1 hxy u hu))], fun hlu => (ha u (hall s1 hs1 u hu) hlu).symm⟩
        rw [List.map_append, List.map_cons, List.append_assoc, List.cons_append]
        congr 1
        · exact List.map_congr_left fun s1 h1 => hcg s1 (by simp [h1]) (.inl h1)
        · congr 1
          · rw [e0, blkS_append]
            simp only [blkS]
            rw [hset, if_pos rfl, blkS_none fun u hu => by show Array.getD _ _ _ = _; rw [hset, if_neg (hne (hqin u hu) (hpq.2 u hu))]; exact hpost u hu]
            simp
          · congr 1
            exact List.map_congr_left fun s1 h1 => hcg s1 (by simp [h1]) (.inr h1)
      · rcases List.mem_append.1 hs1 with h1 | h1
        · exact upS_congr (fun u hu => by show _ = Array.getD _ _ _; rw [hset, if_neg (hne (hall s1 hs1 u hu) (hX s1 hs1 (.inl h1) u hu))]) (inv.up s1 hs1)
        · rcases List.mem_cons.1 h1 with rfl | h1
          · rw [e0, show p ++ t :: q = (p ++ [t]) ++ q by simp]
            refine upS_of (fun u hu => ?_) fun u hu => ?_
            · show Array.getD _ _ _ = _
              rw [hset]
              by_cases e : t.i = u.i
              · rw [if_pos e]
              · rw [if_neg e]
                rcases List.mem_append.1 hu with h2 | h2
                · exact hpre u h2
                · exact absurd (by rw [List.mem_singleton.1 h2]) e
            · show Array.getD _ _ _ = _
              rw [hset, if_neg (hne (hqin u hu) (hpq.2 u hu))]; exact hpost u hu
          · exact upS_congr (fun u hu => by show _ = Array.getD _ _ _; rw [hset, if_neg (hne (hall s1 hs1 u hu) (hX s1 hs1 (.inr h1) u hu))]) (inv.up s1 hs1)
    have hblk : blkS (fun j => listed.getD j false) nm s0.ini s0.st = (match b with | none => s0.ini | some z => z.B (nm z.key)) := by
      rw [e0, blkS_append]
      simp only [blkS, hun, cond_false]
      rw [blkS_none hpost]
      cases hp : p.getLast? with
      | none => rw [hp] at hb; subst hb; rw [List.getLast?_eq_none_iff.1 hp]; rfl
      | some z =>
        rw [hp] at hb; subst hb
        obtain ⟨p', h1⟩ := List.getLast?_eq_some_iff.1 hp
        rw [h1, blkS_append]
        simp only [blkS]
        rw [hpre z (by rw [h1]; simp)]; rfl
    have hheap : H' = X.map (fun s => blkS (fun j => listed.getD j false) nm s.ini s.st) ++ (match b with | none => s0.ini | some z => z.B (nm z.key)) :: (Y.map (fun s => blkS (fun j => listed.getD j false) nm s.ini s.st) ++ H) := by
      rw [inv.heap, ← hblk]; unfold heapM; simp
    -- the environment
    have henv : ∀ (acc : List (Nat × AV)), (∀ j, j ∉ (idsM (X ++ s0 :: Y)).filter (fun j => !(pr.contains j) && (match b with | none => true | some u => !Nat.beq u.i j)) → lookR (cacc ++ full) j = lookR acc j) → envOf σ (cacc ++ full) s (opTmps o) = envOf σ acc s (opTmps o) := fun acc h1 =>
      envOf_congr' fun t' _ j hj => h1 j (srcFree_get hsrc hs hj)
    have hout : ∀ j, (j ∉ idsM (X ++ s0 :: Y) ∨ pr.contains j = true) → lookR (cacc ++ full) j = lookR full j := fun j hj => by
      rw [lookR_append]
      cases h1 : lookR cacc j with
      | none => rfl
      | some r =>
        obtain ⟨h2, h3⟩ := inv.keys j r h1
        obtain ⟨u, hu, rfl⟩ := List.mem_map.1 h2
        have h4 := inv.acc u hu h3
        rw [h1] at h4
        rcases hprom.get u hu with ⟨_, h5⟩ | ⟨h5, _⟩
        · rw [h5 (nm u.key)]; exact h4
        · rcases hj with hj | hj
          · exact absurd h2 hj
          · rw [h5] at hj; cases hj
    cases b with
    | none =>
      rw [henv full fun j hj => by
        refine hout j ?_
        rw [List.mem_filter, not_and] at hj
        by_cases h1 : j ∈ idsM (X ++ s0 :: Y)
        · have := hj h1
          simp at this
          exact .inr (by simpa using this)
        · exact .inl h1]
      rw [hheap]
      refine (hdt _ _ (holeAt _ _)).mono fun r H'' ⟨v', hr, hH⟩ => ?_
      subst hH
      exact done r v' hr (.inl hkey)
    | some z =>
      have hzin : z ∈ allM (X ++ s0 :: Y) ∧ listed.getD z.i false = true := by
        have hzp : z ∈ p := by
          cases hp : p.getLast? with
          | none => rw [hp] at hb; cases hb
          | some y => rw [hp] at hb; cases hb; exact List.mem_of_getLast? hp
        exact ⟨hpin z hzp, hpre z hzp⟩
      have hzl := inv.acc z hzin.1 hzin.2
      rw [henv ((z.i, z.R (nm z.key)) :: full) fun j hj => by
        rw [lookR_cons]
        by_cases e : z.i = j
        · subst e; rw [if_pos rfl, lookR_append, hzl]
        · rw [if_neg e]
          refine hout j ?_
          rw [List.mem_filter, not_and] at hj
          by_cases h1 : j ∈ idsM (X ++ s0 :: Y)
          · have h2 := hj h1
            have h3 : Nat.beq z.i j = false := by
              cases h4 : Nat.beq z.i j with
              | false => rfl
              | true => exact absurd (Nat.eq_of_beq_eq_true h4) e
            simp only [h3, Bool.not_false, Bool.and_true, Bool.not_eq_true', Bool.not_eq_false] at h2
            exact .inr h2
          · exact .inl h1]
      rw [hheap]
      refine (hdt (nm z.key) _ _ (holeAt _ _)).mono fun r H'' ⟨v', hk, hr, hH⟩ => ?_
      subst hH
      rcases hkey.1 with h1 | h1
      · exact done r v' hr (.inl h1)
      · rcases hk with hk | rfl
        · exact done r v' hr (.inl hk)
        · exact done r _ hr (.inr ⟨z, rfl, by rw [h1]⟩)
  · rintro listed cacc H' ⟨hsz, nm, inv⟩ hlst
    have hla : ∀ t ∈ allM sl, listed.getD t.i false = true := fun t ht => hlst _ (hlt _ (hids t ht))
    have hf := hfinal nm
    rw [inv.heap, show heapM (fun j => listed.getD j false) nm sl = sl.map (fun s => endS nm s.ini s.st) from List.map_congr_left fun s hs => blkS_all fun u hu => hla u (hall s hs u hu)]
    rw [finA_congr' (a := cacc ++ full) (b := ((allM sl).map fun t => (t.i, t.R (nm t.key))) ++ full) _ _ _ fun j _ _ => ?_]
    · exact hf
    · rw [lookR_append, lookR_append]
      by_cases hj : j ∈ idsM sl
      · obtain ⟨t, ht, rfl⟩ := List.mem_map.1 hj
        rw [lookR_map hnd t ht, inv.acc t ht (hla t ht)]
      · rw [lookR_mapN hj]
        cases h1 : lookR cacc j with
        | none => rfl
        | some r => exact absurd (inv.keys j r h1).1 hj
end
end Go.Ab
set_option maxRecDepth 1000000
set_option linter.unusedVariables false
set_option linter.unusedSimpArgs false
namespace Go.Proofs.YtdhfibhjfahdcaaDoor
open Go.Fl Go.Ab Go.Mac Go.Sha
theorem AlgebraStays_c (deck : List Int) (x y : List UInt8) : FunA gl Tryd.prog 3 [.v deck, .v x, .v y] (fun r => r = .v true) := by
  refine FunA.intro Tryd.func3 rfl (by kernel_rfl) 118 rfl rfl _ rfl fun C hC hG => ?_
  refine .seq ?_
  refine .region rfl ?_
  refine .p (.assign .b ?_)
  refine .nil ?_
  refine .seq ?_
  refine .region rfl ?_
  refine .p (.move (.t rfl) (.p (.call hG (short10_c _) (.cons (.t rfl) .nil) fun r24 hr24 => ?_)))
  obtain ⟨x, hx, rfl⟩ := hr24
  refine .p (.move (.t rfl) (.p (.call hG (short10_c _) (.cons (.t rfl) .nil) fun r26 hr26 => ?_)))
  obtain ⟨y, hy, rfl⟩ := hr26
  refine .p (.assign (.t rfl) (.p (.assign (.t rfl) ?_)))
  refine .nil ?_
  refine .seq ?_
  refine .region rfl ?_
  refine .p (.move (.t rfl) (.h (.call0 hG (deckNew_c _) (.cons (.t rfl) .nil) fun r28 Hs28 hr28 => ?_)))
  obtain ⟨b28, rfl, rfl⟩ := hr28
  show wpB _ _ _ _ _ _ _ ((true, _) :: _)
  refine .p (.assign (.t rfl) ?_)
  refine .nil ?_
  refine .seq ?_
  refine .region rfl ?_
  refine .p (.move (.t rfl) (.h (.callM hG (Algebra_deck_c _ _ (by first | assumption | exact deckNew_ok _)) .z (.cons (.t rfl) .nil) (by rintro _ _ ⟨_, _, _, _, _, rfl⟩; exact ⟨_, rfl⟩) fun r30 B30 hr30 => ?_)))
  obtain ⟨a, d30, ha, hd30, rfl, hB⟩ := hr30
  cases hB
  refine .h (.alloc ty32 fun b8 => .n (.stW ty32 (.t rfl) (.t rfl) .z ?_))
  refine .nil ?_
  refine .seq ?_
  refine .region rfl ?_
  refine .p (.move (.t rfl) (.p (.ldW ty32 (.t rfl) .z (.h (.callM hG (Known_deck_c _ _ _ (by first | assumption | exact deckNew_ok _) (by first | omega | (have := ha.macs; omega)) (by first | omega | (have := ha.boxes; omega))) (.s .z) (.cons (.t rfl) (.cons (.t rfl) .nil)) (by rintro _ _ ⟨_, _, _, _, rfl⟩; exact ⟨_, rfl⟩) fun r33 B33 hr33 => ?_)))))
  obtain ⟨k33, d33, hd33, rfl, hB⟩ := hr33
  cases hB
  refine .h (.alloc ty28 fun b9 => .n (.stW ty28 (.t rfl) (.t rfl) .z ?_))
  refine .nil ?_
  refine .seq ?_
  refine .region rfl ?_
  refine .p (.ldW ty32 (.t rfl) (.s .z) (.p (.ldW ty28 (.t rfl) .z (.p (.move (.t rfl) (.p (.call hG (made_c ha (by omega) _ _ (by first | omega | (simp; done) | (simp; omega) | (simp at *; omega))) (.cons (.t rfl) (.cons (.t rfl) (.cons (.t rfl) .nil))) fun r38 hr38 => ?_)))))))
  obtain ⟨b, t, rfl, hb⟩ := hr38
  refine .p (.move (.t rfl) (.p (.ext3_0 (.t rfl) (.p (.ext3_1 (.t rfl) (.p (.ext3_2 (.t rfl) (.h (.alloc ty32 fun b10 => .h (.alloc ty28 fun b11 => ?_))))))))))
  refine .n (.stW ty32 (.t rfl) (.t rfl) (.s .z) (.n (.stW ty28 (.t rfl) (.t rfl) .z (.p (.assign (.t rfl) ?_)))))
  refine .nil ?_
  refine .seq ?_
  refine .frzOb hC (.s (.s (.s .z))) ?_
  refine .asP 8 rfl (.s (.s (.s .z))) ?_
  refine .frzOb hC (.s (.s .z)) ?_
  refine .asP 9 rfl (.s (.s .z)) ?_
  obtain ⟨c, t2, hc⟩ := ha.made (by omega) (k := k33) (m := ([] ++ y) ++ [108, 97, 116, 101, 114]) (by simp; omega)
  refine .padE (.padE (.padE (.padE (.drawM [⟨hole0, [⟨13, 13, fun v => .ln (ptr v.2 0) (Lens.id (α := G_api_Algebra)), fun v => (true, .ob (ptr v.2 0) (default : G_api_Algebra))⟩, ⟨15, 13, fun v => .any, fun v => (true, .ob (ptr v.2 0) c)⟩]⟩, ⟨hole0, [⟨14, 14, fun v => .ln (ptr v.2 0) (Lens.id (α := Tag)), fun v => (true, .ob (ptr v.2 0) (default : Tag))⟩, ⟨16, 14, fun v => .any, fun v => (true, .ob (ptr v.2 0) t2)⟩]⟩, ⟨hole0, [⟨2, 2, fun v => .raw v.1, fun v => (true, .own 5 v.1 ([] : List UInt8))⟩, ⟨4, 4, fun v => .raw v.1, fun v => (true, .own 5 v.1 ([] ++ y))⟩, ⟨7, 7, fun v => .raw v.1, fun v => (true, .own 5 v.1 (([] ++ y) ++ [108, 97, 116, 101, 114]))⟩, ⟨8, 7, fun v => .t3 (.v c) (.v t2) (.v (0 : Int)), fun v => (true, .fz v.1 (.v (([] ++ y) ++ [108, 97, 116, 101, 114])))⟩]⟩, ⟨hole0, [⟨5, 5, fun v => .raw v.1, fun v => (true, .own 5 v.1 ([108, 97, 116, 101, 114] : List UInt8))⟩, ⟨6, 5, fun v => .v ([108, 97, 116, 101, 114] : List UInt8), fun v => (true, .fz v.1 (.v ([108, 97, 116, 101, 114] : List UInt8)))⟩]⟩] [13, 15, 14, 16, 2, 4, 7, 8, 5, 6] [8, 6] [[(13, 13), (15, 13)], [(14, 14), (16, 14)], [(2, 2), (4, 4), (7, 7), (8, 7)], [(5, 5), (6, 5)]] (by kernel_rfl) 18 [[], [], [], [], [(45, 2), (46, 3)], [], [(48, 5)], [(47, 4), (49, 6)], [(43, 0), (44, 1), (50, 7)], [(51, 8)], [(42, 9)], [(42, 9)], [(42, 9)], [], [], [(13, 13), (52, 10)], [(14, 14), (53, 11)], [(54, 12)]] rfl (by kernel_rfl) rfl rfl (by decide) (by kernel_rfl) ?_))))
  refine ⟨_, fun H => OpP.ldP ty32 (.t rfl) rfl, ?_⟩
  refine ⟨_, fun H => OpP.ldP ty28 (.t rfl) rfl, ?_⟩
  refine .inl ?_
  refine ⟨_, fun H => OpP.move (.t rfl) rfl, ?_⟩
  refine .inl ?_
  refine .inl ?_
  refine .inr ⟨.v ([108, 97, 116, 101, 114] : List UInt8), ?_⟩
  refine .inl ?_
  refine .inr ⟨.t3 (.v c) (.v t2) (.v (0 : Int)), ?_⟩
  refine ⟨_, fun H => OpP.move (.t rfl) rfl, ?_⟩
  refine ⟨_, fun H => OpP.ext3_0 (.t rfl) rfl, ?_⟩
  refine ⟨_, fun H => OpP.ext3_1 (.t rfl) rfl, ?_⟩
  refine ⟨_, fun H => OpP.ext3_2 (.t rfl) rfl, ?_⟩
  refine .inl ?_
  refine .inl ?_
  refine .inl ?_
  refine .inl ?_
  refine ⟨_, fun H => OpP.assign (.t rfl) rfl, ?_⟩
  refine ⟨?_, ?_, fun nm6 => ?_⟩
  · exact (And.intro rfl (And.intro rfl (And.intro rfl (And.intro rfl (And.intro rfl (And.intro rfl (And.intro rfl (And.intro (fun _ => rfl) (And.intro rfl (And.intro (fun _ => rfl) trivial))))))))))
  · refine (And.intro (And.intro ?_ (And.intro ?_ trivial)) (And.intro (And.intro ?_ (And.intro ?_ trivial)) (And.intro (And.intro ?_ (And.intro ?_ (And.intro ?_ (And.intro ?_ trivial)))) (And.intro (And.intro ?_ (And.intro ?_ trivial)) trivial))))
    · intro o s ho hs; obtain rfl := Option.some.inj (show some _ = some o from ho); obtain rfl := Option.some.inj (show some _ = some s from hs); refine ⟨rfl, fun H' F hh => OpH.into hh (OpH.alloc ty32 fun b13 => ⟨_, rfl, ⟨(undef, _), rfl, rfl⟩⟩)⟩
    · intro o s ho hs; obtain rfl := Option.some.inj (show some _ = some o from ho); obtain rfl := Option.some.inj (show some _ = some s from hs); refine ⟨rfl, fun v H' F hh => OpH.stW ty32 (.t rfl) (.t rfl) hh ⟨_, .inr rfl, rfl, rfl⟩⟩
    · intro o s ho hs; obtain rfl := Option.some.inj (show some _ = some o from ho); obtain rfl := Option.some.inj (show some _ = some s from hs); refine ⟨rfl, fun H' F hh => OpH.into hh (OpH.alloc ty28 fun b14 => ⟨_, rfl, ⟨(undef, _), rfl, rfl⟩⟩)⟩
    · intro o s ho hs; obtain rfl := Option.some.inj (show some _ = some o from ho); obtain rfl := Option.some.inj (show some _ = some s from hs); refine ⟨rfl, fun v H' F hh => OpH.stW ty28 (.t rfl) (.t rfl) hh ⟨_, .inr rfl, rfl, rfl⟩⟩
    · intro o s ho hs; obtain rfl := Option.some.inj (show some _ = some o from ho); obtain rfl := Option.some.inj (show some _ = some s from hs); refine ⟨rfl, fun H' F hh => OpH.into hh (OpH.buildSlice (α := UInt8) ty5 Tryd.underlying23 .nil rfl (by decide) fun b45 => ⟨_, rfl, ⟨(_, 0), rfl, rfl⟩⟩)⟩
    · intro o s ho hs; obtain rfl := Option.some.inj (show some _ = some o from ho); obtain rfl := Option.some.inj (show some _ = some s from hs); refine ⟨rfl, fun v H' F hh => OpH.append st23 (.inl ⟨_, Tryd.underlying23⟩) rfl hh (.v (.t rfl)) (by first | omega | (simp; done) | (simp; omega) | (simp at *; omega)) (by first | omega | (simp; done) | (simp; omega) | (simp at *; omega)) (fun w47 => ⟨(_, 0), .inl rfl, rfl, rfl⟩) rfl⟩
    · intro o s ho hs; obtain rfl := Option.some.inj (show some _ = some o from ho); obtain rfl := Option.some.inj (show some _ = some s from hs); refine ⟨rfl, fun v H' F hh => OpH.append st23 (.inl ⟨_, Tryd.underlying23⟩) rfl hh (.v (.t rfl)) (by first | omega | (simp; done) | (simp; omega) | (simp at *; omega)) (by first | omega | (simp; done) | (simp; omega) | (simp at *; omega)) (fun w50 => ⟨(_, 0), .inl rfl, rfl, rfl⟩) rfl⟩
    · intro o s ho hs; obtain rfl := Option.some.inj (show some _ = some o from ho); obtain rfl := Option.some.inj (show some _ = some s from hs); refine ⟨rfl, fun v H' F hh => OpH.frzOwn hC hh (OpH.as 50 rfl hh.again (OpH.ofP (OpP.call1 hG (mac_as (by have := ha.macs; omega) hc.mac) (.cons (.t rfl) (.cons (.t rfl) (.cons (.t rfl) .nil))) ⟨_, .inr rfl, rfl, rfl⟩)))⟩
    · intro o s ho hs; obtain rfl := Option.some.inj (show some _ = some o from ho); obtain rfl := Option.some.inj (show some _ = some s from hs); refine ⟨rfl, fun H' F hh => OpH.into hh (OpH.buildSlice (α := UInt8) ty5 Tryd.underlying23 (.cons (.u8 108 rfl) (.cons (.u8 97 rfl) (.cons (.u8 116 rfl) (.cons (.u8 101 rfl) (.cons (.u8 114 rfl) .nil))))) rfl (by decide) fun b48 => ⟨_, rfl, ⟨(_, 0), rfl, rfl⟩⟩)⟩
    · intro o s ho hs; obtain rfl := Option.some.inj (show some _ = some o from ho); obtain rfl := Option.some.inj (show some _ = some s from hs); refine ⟨rfl, fun v H' F hh => OpH.frzAfter hC (OpH.same Tryd.underlying23 Tryd.underlying5 rfl hh (by simp) ⟨_, _, rfl, hh.again, ⟨_, .inr rfl, rfl, rfl⟩⟩)⟩
  show wpB _ _ _ _ _ _ ((15, _) :: (14, _) :: (13, _) :: (54, _) :: (53, _) :: (52, _) :: (42, _) :: (51, _) :: (50, _) :: (49, _) :: (48, _) :: (47, _) :: (46, _) :: (45, _) :: (44, _) :: (43, _) :: _) ((true, .ob (ptr (nm6 13).2 0) c) :: (true, .ob (ptr (nm6 14).2 0) t2) :: (true, .fz (nm6 7).1 (.v (([] ++ y) ++ [108, 97, 116, 101, 114]))) :: (true, .fz (nm6 5).1 (.v ([108, 97, 116, 101, 114] : List UInt8))) :: _)
  refine .nil ?_
  refine .seq ?_
  obtain ⟨c', t3, hc'⟩ := hc.ok.made (by omega) (k := k33) (m := ([] ++ y) ++ [115, 116, 105, 108, 108, 32, 108, 97, 116, 101, 114]) (by simp; omega)
  have h3 := ha.macs
  refine .padE (.padE (.padE (.drawM [⟨hole0, [⟨13, 13, fun v => .ln (ptr v.2 0) (Lens.id (α := Tag)), fun v => (true, .ob (ptr v.2 0) (default : Tag))⟩, ⟨15, 13, fun v => .any, fun v => (true, .ob (ptr v.2 0) t3)⟩]⟩, ⟨hole0, [⟨2, 2, fun v => .raw v.1, fun v => (true, .own 5 v.1 ([] : List UInt8))⟩, ⟨4, 4, fun v => .raw v.1, fun v => (true, .own 5 v.1 ([] ++ y))⟩, ⟨7, 7, fun v => .raw v.1, fun v => (true, .own 5 v.1 (([] ++ y) ++ [115, 116, 105, 108, 108, 32, 108, 97, 116, 101, 114]))⟩, ⟨8, 7, fun v => .t3 (.v c') (.v t3) (.v (0 : Int)), fun v => (true, .fz v.1 (.v (([] ++ y) ++ [115, 116, 105, 108, 108, 32, 108, 97, 116, 101, 114])))⟩]⟩, ⟨hole0, [⟨5, 5, fun v => .raw v.1, fun v => (true, .own 5 v.1 ([115, 116, 105, 108, 108, 32, 108, 97, 116, 101, 114] : List UInt8))⟩, ⟨6, 5, fun v => .v ([115, 116, 105, 108, 108, 32, 108, 97, 116, 101, 114] : List UInt8), fun v => (true, .fz v.1 (.v ([115, 116, 105, 108, 108, 32, 108, 97, 116, 101, 114] : List UInt8)))⟩]⟩, ⟨((true, .ob (ptr (nm6 13).2 0) c)), [⟨0, 0, fun v => .v c, fun v => (true, .ob (ptr (nm6 13).2 0) c)⟩, ⟨14, 14, fun v => .any, fun v => (true, .ob (ptr (nm6 13).2 0) c')⟩]⟩] [13, 15, 2, 4, 7, 8, 5, 6, 0, 14] [8, 6, 0] [[(13, 13), (15, 13)], [(2, 2), (4, 4), (7, 7), (8, 7)], [(5, 5), (6, 5)], [(0, 0), (14, 14)]] (by kernel_rfl) 17 [[], [], [], [], [(58, 2), (59, 3)], [], [(61, 5)], [(60, 4), (62, 6)], [(56, 0), (57, 1), (63, 7)], [(64, 8)], [(55, 9)], [(55, 9)], [(55, 9)], [], [(65, 10)], [(16, 13), (66, 11)], [(67, 12)]] rfl (by kernel_rfl) rfl rfl (by decide) (by kernel_rfl) ?_)))
  refine .inr ⟨.v c, ?_⟩
  refine ⟨_, fun H => OpP.ldP ty28 (.t rfl) rfl, ?_⟩
  refine .inl ?_
  refine ⟨_, fun H => OpP.move (.t rfl) rfl, ?_⟩
  refine .inl ?_
  refine .inl ?_
  refine .inr ⟨.v ([115, 116, 105, 108, 108, 32, 108, 97, 116, 101, 114] : List UInt8), ?_⟩
  refine .inl ?_
  refine .inr ⟨.t3 (.v c') (.v t3) (.v (0 : Int)), ?_⟩
  refine ⟨_, fun H => OpP.move (.t rfl) rfl, ?_⟩
  refine ⟨_, fun H => OpP.ext3_0 (.t rfl) rfl, ?_⟩
  refine ⟨_, fun H => OpP.ext3_1 (.t rfl) rfl, ?_⟩
  refine ⟨_, fun H => OpP.ext3_2 (.t rfl) rfl, ?_⟩
  refine .inl ?_
  refine .inl ?_
  refine .inl ?_
  refine ⟨_, fun H => OpP.assign (.t rfl) rfl, ?_⟩
  refine ⟨?_, ?_, fun nm7 => ?_⟩
  · exact (And.intro rfl (And.intro rfl (And.intro rfl (And.intro rfl (And.intro rfl (And.intro (fun _ => rfl) (And.intro rfl (And.intro (fun _ => rfl) (And.intro (fun _ => rfl) (And.intro rfl trivial))))))))))
  · refine (And.intro (And.intro ?_ (And.intro ?_ trivial)) (And.intro (And.intro ?_ (And.intro ?_ (And.intro ?_ (And.intro ?_ trivial)))) (And.intro (And.intro ?_ (And.intro ?_ trivial)) (And.intro (And.intro ?_ (And.intro ?_ trivial)) trivial))))
    · intro o s ho hs; obtain rfl := Option.some.inj (show some _ = some o from ho); obtain rfl := Option.some.inj (show some _ = some s from hs); refine ⟨rfl, fun H' F hh => OpH.into hh (OpH.alloc ty28 fun b16 => ⟨_, rfl, ⟨(undef, _), rfl, rfl⟩⟩)⟩
    · intro o s ho hs; obtain rfl := Option.some.inj (show some _ = some o from ho); obtain rfl := Option.some.inj (show some _ = some s from hs); refine ⟨rfl, fun v H' F hh => OpH.stW ty28 (.t rfl) (.t rfl) hh ⟨_, .inr rfl, rfl, rfl⟩⟩
    · intro o s ho hs; obtain rfl := Option.some.inj (show some _ = some o from ho); obtain rfl := Option.some.inj (show some _ = some s from hs); refine ⟨rfl, fun H' F hh => OpH.into hh (OpH.buildSlice (α := UInt8) ty5 Tryd.underlying23 .nil rfl (by decide) fun b58 => ⟨_, rfl, ⟨(_, 0), rfl, rfl⟩⟩)⟩
    · intro o s ho hs; obtain rfl := Option.some.inj (show some _ = some o from ho); obtain rfl := Option.some.inj (show some _ = some s from hs); refine ⟨rfl, fun v H' F hh => OpH.append st23 (.inl ⟨_, Tryd.underlying23⟩) rfl hh (.v (.t rfl)) (by first | omega | (simp; done) | (simp; omega) | (simp at *; omega)) (by first | omega | (simp; done) | (simp; omega) | (simp at *; omega)) (fun w60 => ⟨(_, 0), .inl rfl, rfl, rfl⟩) rfl⟩
    · intro o s ho hs; obtain rfl := Option.some.inj (show some _ = some o from ho); obtain rfl := Option.some.inj (show some _ = some s from hs); refine ⟨rfl, fun v H' F hh => OpH.append st23 (.inl ⟨_, Tryd.underlying23⟩) rfl hh (.v (.t rfl)) (by first | omega | (simp; done) | (simp; omega) | (simp at *; omega)) (by first | omega | (simp; done) | (simp; omega) | (simp at *; omega)) (fun w63 => ⟨(_, 0), .inl rfl, rfl, rfl⟩) rfl⟩
    · intro o s ho hs; obtain rfl := Option.some.inj (show some _ = some o from ho); obtain rfl := Option.some.inj (show some _ = some s from hs); refine ⟨rfl, fun v H' F hh => OpH.frzOwn hC hh (OpH.as 63 rfl hh.again (OpH.ofP (OpP.call1 hG (mac_as (by have := hc.ok.macs; omega) hc'.mac) (.cons (.t rfl) (.cons (.t rfl) (.cons (.t rfl) .nil))) ⟨_, .inr rfl, rfl, rfl⟩)))⟩
    · intro o s ho hs; obtain rfl := Option.some.inj (show some _ = some o from ho); obtain rfl := Option.some.inj (show some _ = some s from hs); refine ⟨rfl, fun H' F hh => OpH.into hh (OpH.buildSlice (α := UInt8) ty5 Tryd.underlying23 (.cons (.u8 115 rfl) (.cons (.u8 116 rfl) (.cons (.u8 105 rfl) (.cons (.u8 108 rfl) (.cons (.u8 108 rfl) (.cons (.u8 32 rfl) (.cons (.u8 108 rfl) (.cons (.u8 97 rfl) (.cons (.u8 116 rfl) (.cons (.u8 101 rfl) (.cons (.u8 114 rfl) .nil))))))))))) rfl (by decide) fun b61 => ⟨_, rfl, ⟨(_, 0), rfl, rfl⟩⟩)⟩
    · intro o s ho hs; obtain rfl := Option.some.inj (show some _ = some o from ho); obtain rfl := Option.some.inj (show some _ = some s from hs); refine ⟨rfl, fun v H' F hh => OpH.frzAfter hC (OpH.same Tryd.underlying23 Tryd.underlying5 rfl hh (by simp) ⟨_, _, rfl, hh.again, ⟨_, .inr rfl, rfl, rfl⟩⟩)⟩
    · intro o s ho hs; obtain rfl := Option.some.inj (show some _ = some o from ho); obtain rfl := Option.some.inj (show some _ = some s from hs); refine ⟨rfl, fun H' F hh => OpH.ofP (OpP.ldW ty32 (.t rfl) hh ⟨(undef, 0), rfl, hh.self.symm⟩)⟩
    · intro o s ho hs; obtain rfl := Option.some.inj (show some _ = some o from ho); obtain rfl := Option.some.inj (show some _ = some s from hs); refine ⟨rfl, fun v H' F hh => OpH.stW ty32 (.t rfl) (.t rfl) hh ⟨(undef, 0), .inl rfl, rfl, rfl⟩⟩
  show wpB _ _ _ _ _ _ ((17, _) :: (16, _) :: (67, _) :: (66, _) :: (65, _) :: (55, _) :: (64, _) :: (63, _) :: (62, _) :: (61, _) :: (60, _) :: (59, _) :: (58, _) :: (57, _) :: (56, _) :: _) ((true, .ob (ptr (nm7 13).2 0) t3) :: (true, .fz (nm7 7).1 (.v (([] ++ y) ++ [115, 116, 105, 108, 108, 32, 108, 97, 116, 101, 114]))) :: (true, .fz (nm7 5).1 (.v ([115, 116, 105, 108, 108, 32, 108, 97, 116, 101, 114] : List UInt8))) :: (true, .ob (ptr (nm6 13).2 0) c') :: _)
  refine .nil ?_
  refine .seq ?_
  refine .region rfl ?_
  refine .p (.ldW ty32 (.t rfl) (.s (.s (.s (.s (.s (.s (.s (.s .z)))))))) (.p (.ldP ty28 (.t rfl) (.p (.move (.t rfl) (.p (.call1 hG (look_as hb.look) (.cons (.t rfl) (.cons (.t rfl) (.cons (.t rfl) .nil))) (.p (.move (.t rfl) (.p (.ext2_0 (.t rfl) ?_)))))))))))
  refine .p (.ext2_1 (.t rfl) (.h (.alloc ty28 fun b18 => .n (.stW ty28 (.t rfl) (.t rfl) .z (.p (.assign (.t rfl) ?_))))))
  refine .nil ?_
  refine .seq ?_
  refine .region rfl ?_
  refine .p (.ldP ty32 (.t rfl) (.p (.ldP ty28 (.t rfl) (.p (.move (.t rfl) (.p (.call1 hG (rMac_as hb.mac) (.cons (.t rfl) (.cons (.t rfl) (.cons (.t rfl) .nil))) (.p (.move (.t rfl) (.p (.ext3_0 (.t rfl) ?_)))))))))))
  refine .p (.ext3_1 (.t rfl) (.p (.ext3_2 (.t rfl) (.h (.alloc ty32 fun b20 => .h (.alloc ty28 fun b21 => .n (.stW ty32 (.t rfl) (.t rfl) (.s .z) (.n (.stW ty28 (.t rfl) (.t rfl) .z ?_)))))))))
  refine .p (.assign (.t rfl) ?_)
  refine .nil ?_
  refine .seq ?_
  refine .region rfl ?_
  refine .p (.move (.t rfl) (.p (.eqlI (.t rfl) (.i rfl) (.p (.move (.t rfl) ?_)))))
  refine .go 85 rfl (.t rfl) (fun hg86 => .move (.t rfl) rfl) ?_
  refine .go 85 rfl (.t rfl) (fun hg87 => .eqlI (.o rfl (beq_iff_eq.2 hg87)) (.i rfl) rfl) ?_
  refine .p (.pickAnd (.t rfl) (fun hp => (.o rfl (beq_iff_eq.2 hp))) (.p (.move (.t rfl) ?_)))
  refine .go 89 rfl (.t rfl) (fun hg90 => .move (.t rfl) rfl) ?_
  refine .go 89 rfl (.t rfl) (fun hg91 => .eqlI (.o rfl (beq_iff_eq.2 hg91)) (.i rfl) rfl) ?_
  refine .p (.pickAnd (.t rfl) (fun hp => (.o rfl (beq_iff_eq.2 hp))) (.p (.move (.t rfl) ?_)))
  refine .go 93 rfl (.t rfl) (fun hg94 => .move (.t rfl) rfl) ?_
  refine .p (.pickAnd (.t rfl) (fun hp => (.o rfl (beq_iff_eq.2 hp))) (.p (.move (.t rfl) ?_)))
  refine .go 96 rfl (.t rfl) (fun hg97 => .ldW ty28 (.t rfl) (.s (.s (.s (.s (.s (.s (.s (.s (.s (.s .z)))))))))) rfl) ?_
  refine .go 96 rfl (.t rfl) (fun hg98 => .ldW ty28 (.t rfl) (.s (.s .z)) rfl) ?_
  refine .go 96 rfl (.t rfl) (fun hg99 => .eqlA8 Tryd.underlying28 sz5 Tryd.underlying5 gd28 (.o rfl (beq_iff_eq.2 hg99)) (.o rfl (beq_iff_eq.2 hg99)) rfl) ?_
  refine .p (.pickAnd (.t rfl) (fun hp => (.o rfl (beq_iff_eq.2 hp))) (.p (.move (.t rfl) ?_)))
  refine .go 101 rfl (.t rfl) (fun hg102 => .ldW ty32 (.t rfl) (.s (.s (.s (.s (.s (.s (.s (.s (.s (.s (.s .z))))))))))) rfl) ?_
  refine .go 101 rfl (.t rfl) (fun hg103 => .ldW ty32 (.t rfl) (.s .z) rfl) ?_
  refine .go 101 rfl (.t rfl) (fun hg104 => .call1 hG (sameAlg_c _) (.cons (.o rfl (beq_iff_eq.2 hg104)) (.cons (.o rfl (beq_iff_eq.2 hg104)) .nil)) rfl) ?_
  refine .p (.pickAnd (.t rfl) (fun hp => (.o rfl (beq_iff_eq.2 hp))) (.p (.move (.t rfl) ?_)))
  refine .go 106 rfl (.t rfl) (fun hg107 => .fldW G_api_Algebra.l3 fd32_3 rfl (.t rfl) rfl) ?_
  refine .go 106 rfl (.t rfl) (fun hg108 => .ldF (fun x => x.Macs) ty29 (.o rfl (beq_iff_eq.2 hg108)) (.s (.s (.s (.s (.s (.s .z)))))) (fun _ => rfl) rfl) ?_
  refine .go 106 rfl (.t rfl) (fun hg109 => .len Tryd.underlying29 (.o rfl (beq_iff_eq.2 hg109)) rfl) ?_
  refine .go 106 rfl (.t rfl) (fun hg110 => .fldPF G_api_Algebra.l3 (fun x => x.Macs) fd32_3 rfl (fun _ => rfl) (.t rfl) rfl) ?_
  refine .go 106 rfl (.t rfl) (fun hg111 => .ldP ty29 (.o rfl (beq_iff_eq.2 hg111)) rfl) ?_
  refine .go 106 rfl (.t rfl) (fun hg112 => .len Tryd.underlying29 (.o rfl (beq_iff_eq.2 hg112)) rfl) ?_
  refine .go 106 rfl (.t rfl) (fun hg113 => .geq (.o rfl (beq_iff_eq.2 hg113)) (.o rfl (beq_iff_eq.2 hg113)) rfl) ?_
  refine .p (.pickAnd (.t rfl) (fun hp => (.o rfl (beq_iff_eq.2 hp))) (.p (.move (.t rfl) ?_)))
  refine .go 115 rfl (.t rfl) (fun hg116 => .call1 hG (awake10_c) .nil rfl) ?_
  refine .p (.pickAnd (.t rfl) (fun hp => (.o rfl (beq_iff_eq.2 hp))) (.p (.assign (.t rfl) ?_)))
  refine .nil ?_
  refine .ret ?_
  refine ⟨_, .r1 rfl (.tmp rfl), ?_⟩
  have h4 := hc.len2; have h5 := hc'.len2; simp; omega
end Go.Proofs.YtdhfibhjfahdcaaDoor
set_option linter.unusedVariables false
namespace Go.Fl
open Go.ChangeShapes Go.WideShapes Go.ChangeAt Go.RowKit
def imOf (W : World) : Im := fun b => W.heap[b]?
theorem mem_imOf (W : World) : Mem (imOf W) [] W := ⟨fun b o h => h, by simp, by simp, by simp⟩
theorem Fun.calls {P : Program} {f : FuncId} {args : Array Value} {W : World} {r : Value} (h : Fun P f args (imOf W) (fun v _ => v = r)) :
    Calls P f args W (fun e W' => e = .returned r ∧ Below W.heap.size W W') :=
  (h.run W (mem_imOf W)).mono fun e w' ⟨v, J, he, hc, _, _, _, hv⟩ => ⟨by rw [he, hv], ⟨hc.os, hc.tape, hc.output, hc.size, fun k hk => hc.block k hk (by simp)⟩⟩
theorem cell_plain {W : World} {x : Addr} {v : Value} (h : W.cell? x = some v) : x.spot = none ∧ ∃ cs e fr, W.heap[x.block]? = some (.cells cs e fr) ∧ cs[x.off]? = some v := by
  unfold World.cell? at h
  split at h
  · rename_i c e fr heq
    split at h
    · cases h
    · rename_i hs
      exact ⟨by simpa using hs, c, e, fr, heq, h⟩
  · cases h
theorem words_laid {P : Program} {W : World} {n : String} {d : DataW Unit} {l : List UInt32} {g : Nat} {T E : TypeId} (hg : P.globalNamed n = some g) (ht : (P.globals[g]?).map (·.type) = some T) (hT : P.underlying T = some (.array l.length E))
    (hE : P.underlying E = some (.int .u32)) (hone : P.cellsOf E = 1) (hl : 0 < l.length) (hd : d = .agg (l.map fun k => .lit (.int .u32 (k.toNat : Int)))) (h : laidMet P [(n, d)] W) : Cells (imOf W) g 0 (l.map u32) := by
  obtain ⟨ps, ⟨g2, t, cs, fuel, p, q, hg2, ht2, hvar, htr, _, _⟩, _⟩ := h
  obtain rfl := Option.some.inj (hg.symm.trans hg2)
  obtain rfl := Option.some.inj (ht.symm.trans ht2)
  obtain ⟨xs, m, _, hx, hlen, hxl, hel⟩ := DataW.trod_array hT htr
  have hxd : xs.map (·.1) = l.map fun k => DataW.lit (.int .u32 (k.toNat : Int)) := by
    have := (Prod.mk.inj hx).1
    rw [hd] at this
    injection this with h2
    exact h2.symm
  have hcell : ∀ (i : Nat) (v : Value), (l.map u32)[i]? = some v → cs[i]? = some v := by
    intro i v hv
    have hi : i < l.length := by simpa using (List.getElem?_eq_some_iff.1 hv).1
    have h1 := hel i hi
    rw [hone] at h1
    have hxi : xs[i]? = some (xs[i]'(by omega)) := List.getElem?_eq_getElem (by omega)
    rw [hxi] at h1
    obtain ⟨k, hk1, hk2, _⟩ := DataW.trod_int hE h1
    have hfst : (xs.map (·.1))[i]? = some (DataW.lit (.int .u32 k)) := by rw [List.getElem?_map, hxi, Option.map_some, hk2]
    rw [hxd, List.getElem?_map, List.getElem?_eq_getElem hi] at hfst
    simp at hfst
    have hci : cs.toList[i]? = some (.int .u32 k) := by
      have : ((cs.toList.drop (i * 1)).take 1)[0]? = some (.int .u32 k) := by rw [hk1]; rfl
      simpa [List.getElem?_take, List.getElem?_drop] using this
    rw [List.getElem?_map, List.getElem?_eq_getElem hi, Option.map_some] at hv
    have hv := Option.some.inj hv
    rw [← hv, u32, hfst]
    simpa using hci
  have h0 : ∃ v, (l.map u32)[0]? = some v := ⟨_, List.getElem?_eq_getElem (by simpa using hl)⟩
  obtain ⟨v0, hv0⟩ := h0
  have hc0 := World.var?_cell hg hvar 0
  rw [hcell 0 v0 hv0] at hc0
  obtain ⟨_, cs2, e, fr, hob, _⟩ := cell_plain hc0
  refine ⟨cs2, e, fr, hob, fun i v hv => ?_⟩
  have h3 := World.var?_cell hg hvar i
  rw [hcell i v hv] at h3
  obtain ⟨_, cs3, e3, fr3, hob3, hv3⟩ := cell_plain h3
  have : Obj.cells cs2 e fr = Obj.cells cs3 e3 fr3 := Option.some.inj (hob.symm.trans hob3)
  cases this
  simpa using hv3
end Go.Fl
set_option linter.unusedVariables false
namespace Go.Ab
open Go.Fl Go.RowKit Go.ChangeShapes Go.WideShapes Go.ChangeAt
open Rep (rep)
def Opens (P : Program) (T : TypeId) (α : Type) [Rep α] : Prop := P.cellsOf T = Rep.size α ∧
  ∀ (H : Type) (enc : TypeId × Value → H) (W : World) (base : Nat) (spare : Nat → Bool) (held : Bool) (fuel : Nat) (cs : List Value) (x : DataW H × List MemPlace), DataW.trod enc P W base spare held fuel T cs = some x → ∃ a : α, rep (imOf W) a cs
variable {P : Program} {T E : TypeId}
theorem Opens.i64 (hT : P.underlying T = some (.int .i64)) (hc : P.cellsOf T = 1) : Opens P T Int := ⟨hc, fun H enc W base spare held fuel cs x h => by
  obtain ⟨n, rfl, _, hw⟩ := DataW.trod_int hT h
  simp [Lit.wf, IntKind.min, IntKind.max, IntKind.signed, IntKind.bits] at hw
  exact ⟨n, rfl, by omega, by omega⟩⟩
theorem Opens.u8 (hT : P.underlying T = some (.int .u8)) (hc : P.cellsOf T = 1) : Opens P T UInt8 := ⟨hc, fun H enc W base spare held fuel cs x h => by
  obtain ⟨n, rfl, _, hw⟩ := DataW.trod_int hT h
  simp [Lit.wf, IntKind.min, IntKind.max, IntKind.signed, IntKind.bits] at hw
  refine ⟨UInt8.ofNat n.toNat, ?_⟩
  show [Value.int .u8 n] = [Fl.u8 _]
  unfold Fl.u8
  congr 2; simp; omega⟩
theorem add_add (a : Addr) (i j : Nat) : (a.add i).add j = a.add (i + j) := by
  unfold Addr.add
  rcases a with ⟨b, o, _ | s⟩ <;> by_cases hi : i = 0 <;> by_cases hj : j = 0 <;> simp [hi, hj, Nat.add_assoc]
theorem Opens.slice {α : Type} {r : Rep α} (hT : P.underlying T = some (.slice E)) (hc : P.cellsOf T = 1) (hE : Opens P E α) (hp : 0 < Rep.size α) : Opens P T (List α) := ⟨hc, fun H enc W base spare held fuel cs x h => by
  rcases DataW.trod_slice hT h with ⟨rfl, _⟩ | ⟨a, len, cap, elems, rest, n, _, rfl, _, hb, hl, hm, hel, hget, _⟩
  · exact ⟨[], _, rfl, [], Sl.nil _ _, rfl⟩
  · have key : ∀ k, k ≤ len → ∃ (l : List α) (xs : List Value), l.length = k ∧ repL (imOf W) l xs ∧ ∀ i v, xs[i]? = some v → W.cell? (a.add i) = some v := by
      intro k
      induction k with
      | zero => exact fun _ => ⟨[], [], rfl, rfl, fun i v hv => by simp at hv⟩
      | succ k ih =>
        intro hk
        obtain ⟨l, xs, h1, h2, h3⟩ := ih (by omega)
        have hg := hget k (by omega)
        rw [List.getElem?_eq_getElem (by omega)] at hg
        obtain ⟨c, hc1, hc2⟩ := Option.bind_eq_some_iff.1 hg
        obtain ⟨_, hcl, hcell⟩ := World.cells?_some hc1
        obtain ⟨y, hy⟩ := hE.2 H enc W base spare held n c _ hc2
        refine ⟨l ++ [y], xs ++ c, by simp [h1], h2.append (.one hy), fun i v hv => ?_⟩
        have hxl : xs.length = k * Rep.size α := by rw [h2.len, h1]
        by_cases hi : i < xs.length
        · rw [List.getElem?_append_left hi] at hv; exact h3 i v hv
        · rw [List.getElem?_append_right (by omega)] at hv
          have hj := (List.getElem?_eq_some_iff.1 hv).1
          have := hcell (i - xs.length) (by omega)
          rw [hv, hE.1, add_add, ← hxl, show xs.length + (i - xs.length) = i by omega] at this
          exact this
    obtain ⟨l, xs, h1, h2, h3⟩ := key len (Nat.le_refl _)
    have hxl := h2.len
    refine ⟨l, _, rfl, xs, ⟨_, _, by rw [h1], h2.len, by omega, hm, (fun h => by cases h), fun hne => ?_⟩, h2⟩
    rcases a with ⟨ab, ao, ags⟩
    obtain ⟨v0, hv0⟩ : ∃ v, xs[0]? = some v := ⟨_, List.getElem?_eq_getElem (List.length_pos_iff.2 hne)⟩
    have hc0 := h3 0 v0 hv0
    obtain ⟨hsp, cs, e, fr, hob, _⟩ := cell_plain hc0
    have hsp2 : ags = none := by
      cases ags with
      | none => rfl
      | some q =>
        unfold Addr.add at hsp
        simp at hsp
    subst hsp2
    rw [Addr.add_plain] at hob
    have hob : W.heap[ab]? = some (Obj.cells cs e fr) := hob
    refine ⟨ab, ao, rfl, cs, e, fr, hob, fun i v hv => ?_⟩
    have hcv := h3 i v hv
    rw [Addr.add_plain] at hcv
    obtain ⟨_, cs2, e2, fr2, hob2, hv2⟩ := cell_plain hcv
    have : Obj.cells cs e fr = Obj.cells cs2 e2 fr2 := Option.some.inj (hob.symm.trans hob2)
    cases this
    exact hv2⟩
theorem Opens.val {α : Type} {r : Rep α} (h : Opens P T α) {H : Type} {enc : TypeId × Value → H} {W : World} {base : Nat} {spare : Nat → Bool} {held : Bool} {v : Value} {d : DataW H} {p : List MemPlace} (ht : DataW.Trod enc P W base spare held T v d p)
    (hv : ∀ cs : List Value, v.cells.toList = cs → v = asV (Rep.agg α) cs) : ∃ a : α, RepV (imOf W) (.v a) v := by
  obtain ⟨fuel, hf⟩ := ht
  obtain ⟨a, ha⟩ := h.2 H enc W base spare held fuel _ _ hf
  exact ⟨a, _, ha, hv _ rfl⟩
theorem FunA.calls {G : Gl} {f : FuncId} {ags : List AV} {vs : List Value} {W : World} (h : FunA G P f ags (fun r => r = .v true)) (hG : G.p (imOf W)) (hv : RepVs (imOf W) ags vs) :
    Calls P f vs.toArray W (fun e W' => e = .returned (.bool true) ∧ Below W.heap.size W W') :=
  Fun.calls ((h (imOf W) vs hG hv).mono fun v J _ ⟨r, h1, h2⟩ => by
    subst h2
    obtain ⟨cs, rfl, rfl⟩ := h1
    rfl)
theorem form_one {v : Value} (h : v.cells = #[v]) : ∀ cs : List Value, v.cells.toList = cs → v = asV false cs := fun cs hc => by
  rw [h] at hc; subst hc; rfl
end Go.Ab
set_option maxRecDepth 1000000
set_option linter.unusedVariables false
namespace Go.Proofs.YtdhfibhjfahdcaaDoor
open Go.Fl Go.Ab Go.Mac Go.Sha
open Go.ChangeShapes Go.WideShapes Go.ChangeAt Go.RowKit
theorem ownK : ownKnob Tryd.prog.godebug = none := by kernel_rfl
theorem laidOutK : laidOutB Tryd.prog = true := by kernel_rfl
noncomputable def kWorld (os : Os) : World :=
  let w0 := World.holding Tryd.prog os ⟨#[], #[], []⟩
  { w0 with heap := w0.heap.modify 0 fun
      | .cells _ t frozen => .cells (kk.map Fl.u32).toArray t frozen
      | o => o }
def kLaid : List (String × DataW Unit) := [("macaroon/sha.k", Rows.laid_macaroon_sha_k)]
set_option maxRecDepth 100000 in
theorem k_met (os : Os) (args : Array Value) : laidMet Tryd.prog kLaid ((kWorld os).forCall (fun _ _ => 0) ⟨#[], args, []⟩).memory :=
  laidMet_of_run' 8 (by kernel_rfl) (by kernel_rfl)
set_option maxRecDepth 100000 in
theorem k_cells {W : World} (h : laidMet Tryd.prog kLaid W) : gl.p (imOf W) :=
  ⟨words_laid (l := kk) (T := 95) (E := 81) (by kernel_rfl) (by kernel_rfl) Tryd.underlying95 Tryd.underlying81 (by kernel_rfl) (by decide) rfl h, trivial⟩
theorem op3 : Opens Tryd.prog 3 Int := .i64 Tryd.underlying3 (by kernel_rfl)
theorem op22 : Opens Tryd.prog 22 (List Int) := .slice Tryd.underlying22 (by kernel_rfl) op3 (by decide)
theorem op5 : Opens Tryd.prog 5 UInt8 := .u8 Tryd.underlying5 (by kernel_rfl)
theorem op23 : Opens Tryd.prog 23 (List UInt8) := .slice Tryd.underlying23 (by kernel_rfl) op5 (by decide)
end Go.Proofs.YtdhfibhjfahdcaaDoor
