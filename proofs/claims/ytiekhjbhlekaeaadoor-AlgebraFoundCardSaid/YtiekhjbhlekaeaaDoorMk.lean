/- Walks of the maker of an algebra: an object whose slices grow. -/
import Derived.Test.YtiekhjbhlekaeaaDoorAs
import Derived.Test.YtiekhjbhlekaeaaDoorAc
set_option maxRecDepth 1000000
set_option linter.unusedVariables false
set_option linter.unusedSimpArgs false
namespace Go.Proofs.YtiekhjbhlekaeaaDoor
open Go.Fl Go.Ab Go.Mac Go.Sha
structure G_api_AlgebraR where
  Free : Bool
  Seed : (Arr 32 UInt8)
  Fresh : Int
  Macs : SlRaw
  Boxes : SlRaw
def G_api_AlgebraR.f (x : G_api_AlgebraR) : Bool × (Arr 32 UInt8) × Int × SlRaw × SlRaw × Unit := (x.Free, x.Seed, x.Fresh, x.Macs, x.Boxes, ())
instance : Inhabited G_api_AlgebraR := ⟨⟨default, default, default, default, default⟩⟩
instance : Rep G_api_AlgebraR := Rep.via G_api_AlgebraR.f
instance : RepZ G_api_AlgebraR := RepZ.via G_api_AlgebraR.f rfl
def G_api_AlgebraR.l0 : Lens G_api_AlgebraR Bool := Lens.via G_api_AlgebraR.f Lens.fst (fun x => x.Free) (fun y x => { x with Free := y }) (fun _ => rfl) (fun _ _ => rfl)
def G_api_AlgebraR.l1 : Lens G_api_AlgebraR (Arr 32 UInt8) := Lens.via G_api_AlgebraR.f (Lens.snd.comp Lens.fst) (fun x => x.Seed) (fun y x => { x with Seed := y }) (fun _ => rfl) (fun _ _ => rfl)
def G_api_AlgebraR.l2 : Lens G_api_AlgebraR Int := Lens.via G_api_AlgebraR.f (Lens.snd.comp (Lens.snd.comp Lens.fst)) (fun x => x.Fresh) (fun y x => { x with Fresh := y }) (fun _ => rfl) (fun _ _ => rfl)
def G_api_AlgebraR.l3 : Lens G_api_AlgebraR SlRaw := Lens.via G_api_AlgebraR.f (Lens.snd.comp (Lens.snd.comp (Lens.snd.comp Lens.fst))) (fun x => x.Macs) (fun y x => { x with Macs := y }) (fun _ => rfl) (fun _ _ => rfl)
def G_api_AlgebraR.l4 : Lens G_api_AlgebraR SlRaw := Lens.via G_api_AlgebraR.f (Lens.snd.comp (Lens.snd.comp (Lens.snd.comp (Lens.snd.comp Lens.fst)))) (fun x => x.Boxes) (fun y x => { x with Boxes := y }) (fun _ => rfl) (fun _ _ => rfl)
structure G_algebra_MakerR where
  a : G_api_AlgebraR
  e : Int
def G_algebra_MakerR.f (x : G_algebra_MakerR) : G_api_AlgebraR × Int × Unit := (x.a, x.e, ())
instance : Inhabited G_algebra_MakerR := ⟨⟨default, default⟩⟩
instance : Rep G_algebra_MakerR := Rep.via G_algebra_MakerR.f
instance : RepZ G_algebra_MakerR := RepZ.via G_algebra_MakerR.f rfl
def G_algebra_MakerR.l0 : Lens G_algebra_MakerR G_api_AlgebraR := Lens.via G_algebra_MakerR.f Lens.fst (fun x => x.a) (fun y x => { x with a := y }) (fun _ => rfl) (fun _ _ => rfl)
def G_algebra_MakerR.l1 : Lens G_algebra_MakerR Int := Lens.via G_algebra_MakerR.f (Lens.snd.comp Lens.fst) (fun x => x.e) (fun y x => { x with e := y }) (fun _ => rfl) (fun _ _ => rfl)
theorem tyR29 : TyIs Tryd.prog 29 SlRaw := .of (by kernel_rfl) (by kernel_rfl) (by kernel_rfl) (by decide)
theorem tyR30 : TyIs Tryd.prog 30 SlRaw := .of (by kernel_rfl) (by kernel_rfl) (by kernel_rfl) (by decide)
theorem tyR32 : TyIs Tryd.prog 32 G_api_AlgebraR := .of (by kernel_rfl) (by kernel_rfl) (by kernel_rfl) (by decide)
theorem tyR105 : TyIs Tryd.prog 105 G_algebra_MakerR := .of (by kernel_rfl) (by kernel_rfl) (by kernel_rfl) (by decide)
def rawAlg (a : Alg) (um ub : Value) : G_api_AlgebraR := ⟨a.Free, a.Seed, a.Fresh, ⟨um⟩, ⟨ub⟩⟩
def rawMk (a : Alg) (e : Int) (um ub : Value) : G_algebra_MakerR := ⟨rawAlg a um ub, e⟩
theorem rawAlg_of (a : Alg) (I : Im) (u : Value) (h : RepV I (.v a) u) : ∃ x y, RepV I (.v (rawAlg a x y)) u ∧ RepV I (.v a.Macs) x ∧ RepV I (.v a.Boxes) y := by
  obtain ⟨cs, ⟨c1, r1, rfl, h1, c2, r2, rfl, h2, c3, r3, rfl, h3, c4, r4, rfl, h4, c5, r5, rfl, h5, h6⟩, rfl⟩ := h
  obtain ⟨v4, rfl, h4⟩ := h4
  obtain ⟨v5, rfl, h5⟩ := h5
  have o4 : v4.oneCell' = true := by obtain ⟨xs, ⟨a, c, rfl, _⟩, _⟩ := h4; rfl
  have o5 : v5.oneCell' = true := by obtain ⟨xs, ⟨a, c, rfl, _⟩, _⟩ := h5; rfl
  exact ⟨v4, v5, ⟨_, ⟨c1, _, rfl, h1, c2, _, rfl, h2, c3, _, rfl, h3, _, _, rfl, ⟨rfl, o4⟩, _, _, rfl, ⟨rfl, o5⟩, h6⟩, rfl⟩, ⟨_, ⟨v4, rfl, h4⟩, rfl⟩, ⟨_, ⟨v5, rfl, h5⟩, rfl⟩⟩
theorem rawAlg_to (a : Alg) (x y : Value) (I : Im) (u : Value) (h : RepV I (.v (rawAlg a x y)) u) (h4 : RepV I (.v a.Macs) x) (h5 : RepV I (.v a.Boxes) y) : RepV I (.v a) u := by
  obtain ⟨cs, ⟨c1, r1, rfl, h1, c2, r2, rfl, h2, c3, r3, rfl, h3, c4, r4, rfl, ⟨rfl, _⟩, c5, r5, rfl, ⟨rfl, _⟩, h6⟩, rfl⟩ := h
  obtain ⟨_, ⟨v4, rfl, h4⟩, rfl⟩ := h4
  obtain ⟨_, ⟨v5, rfl, h5⟩, rfl⟩ := h5
  exact ⟨_, ⟨c1, _, rfl, h1, c2, _, rfl, h2, c3, _, rfl, h3, _, _, rfl, ⟨_, rfl, h4⟩, _, _, rfl, ⟨_, rfl, h5⟩, h6⟩, rfl⟩
abbrev gsM (u : Value) (a : Alg) : Blk := .usr u (GS.mk 38 a.Macs)
abbrev gsB (u : Value) (a : Alg) : Blk := .usr u (GS.mk 56 a.Boxes)
abbrev mp (w : Value) : AV := .ln w (Lens.id (α := G_algebra_MakerR))
structure MkU where
  a : Alg
  e : Int
  um : Value
  ub : Value
def MkU.bs (w : Value) (x : MkU) : List Blk := [.ob w (rawMk x.a x.e x.um x.ub), gsM x.um x.a, gsB x.ub x.a]
theorem repK.mono {I J : Im} (hle : Le I J) : ∀ {Hs : List Blk} {L : Lh}, repK I Hs L → repK J Hs L
  | [], _, h => h
  | B :: Hs, _, h => by obtain ⟨X, R, h1, h2, h3⟩ := h; exact ⟨X, R, h1, Blk.mono hle h2, repK.mono hle h3⟩
instance : UB MkU where
  ub I w x X := ∃ L, X = L.flatten ∧ repK I (x.bs w) L
  mono hle h := by obtain ⟨L, h1, h2⟩ := h; exact ⟨L, h1, repK.mono hle h2⟩
theorem FunH.mk {G : Gl} {P : Program} {f : FuncId} {ag : List AV} {w : Value} {x : MkU} {post : AV → MkU → Prop} (h : FunH G P f ag (x.bs w) (fun r Hs => ∃ x', Hs = x'.bs w ∧ post r x')) :
    FunH G P f ag [.usr w x] (fun r Hs => ∃ x', Hs = [.usr w x'] ∧ post r x') := by
  refine .regroup fun I L vs hvs hL => ?_
  obtain ⟨X, R, rfl, ⟨L0, rfl, h1⟩, h2⟩ := hL
  obtain rfl : R = [] := h2
  refine ⟨ag, x.bs w, L0, by simp, hvs, h1, fun I L vs hG hvs hL => ?_⟩
  have hM := h I L vs hG hvs hL
  refine ⟨hM.ok, fun w0 hm => (hM.run w0 hm).mono ?_⟩
  rintro e w' ⟨v, J, L', rfl, q1, q2, q3, q4, q5, r, Hs, q6, q7, x', rfl, q8⟩
  exact ⟨v, J, L', rfl, q1, q2, q3, q4, q5, r, _, q6, q7, fun J' L1 h3 => ⟨[.usr w x'], [L1.flatten], by simp, ⟨_, [], rfl, ⟨L1, rfl, h3⟩, rfl⟩, x', rfl, q8⟩⟩
theorem FunH.mkNew {G : Gl} {P : Program} {f : FuncId} {ag : List AV} {post : AV → Value → MkU → Prop} (h : FunH G P f ag [] (fun r Hs => ∃ w x', Hs = MkU.bs w x' ∧ post r w x')) :
    FunH G P f ag [] (fun r Hs => ∃ w x', Hs = [.usr w x'] ∧ post r w x') := by
  refine .regroup fun I L vs hvs hL => ⟨ag, [], L, rfl, hvs, hL, fun I L vs hG hvs hL => ?_⟩
  have hM := h I L vs hG hvs hL
  refine ⟨hM.ok, fun w0 hm => (hM.run w0 hm).mono ?_⟩
  rintro e w' ⟨v, J, L', rfl, q1, q2, q3, q4, q5, r, Hs, q6, q7, w, x', rfl, q8⟩
  exact ⟨v, J, L', rfl, q1, q2, q3, q4, q5, r, _, q6, q7, fun J' L1 h3 => ⟨[.usr w x'], [L1.flatten], by simp, ⟨_, [], rfl, ⟨L1, rfl, h3⟩, rfl⟩, w, x', rfl, q8⟩⟩
theorem Begin_c (a : Alg) : FunH gl Tryd.prog 53 [.v a] [] (fun r Hs => ∃ w, ∃ x : MkU, Hs = [.usr w x] ∧ r = mp w ∧ x.a = a ∧ x.e = 0) := by
  refine FunH.mkNew (post := fun r w x => r = mp w ∧ x.a = a ∧ x.e = 0) ?_
  refine FunH.introS Tryd.func53 rfl (by kernel_rfl) 14 rfl rfl _ rfl _ rfl fun C hC hG => ?_
  refine .seq ?_
  refine .name2 0 (fun um ub => .v (rawAlg a um ub)) (rawAlg_of a) rfl fun um ub => ?_
  refine .region rfl ?_
  refine .h (.box (.t rfl) fun b1 => .p (.assign .raw ?_))
  refine .nil ?_
  refine .seq ?_
  refine .drawCF [false, false, false] (by kernel_rfl) 7 [[], [(3, 0)], [(4, 1)], [], [(6, 3)], [(7, 4)], []] [2, 5] rfl (by kernel_rfl) rfl (by kernel_rfl) (by decide) ?_
  refine ⟨_, fun H => OpP.fldW G_api_AlgebraR.l3 fd32_3 rfl (.t rfl) rfl, ?_⟩
  refine ⟨_, fun H => OpP.ldR (fun x => x.Macs) tyR29 (.t rfl) (Hole.app .z) (fun _ => rfl) rfl, ?_⟩
  refine .inl ?_
  refine ⟨_, fun H => OpP.fldW G_api_AlgebraR.l4 fd32_4 rfl (.t rfl) rfl, ?_⟩
  refine ⟨_, fun H => OpP.ldR (fun x => x.Boxes) tyR30 (.t rfl) (Hole.app .z) (fun _ => rfl) rfl, ?_⟩
  refine .inl ?_
  refine ⟨_, fun H => OpP.fldW G_api_AlgebraR.l3 fd32_3 rfl (.t rfl) rfl, ?_⟩
  refine ⟨⟨([], fun k => List.getD [(true, .none_), (true, .none_), (true, .none_)] k (true, .none_)), rfl⟩, ?_⟩
  refine OpH.call0 hG (FunA.gs 38 (clipMac_c _)) (.cons (.fzA rfl (.s .z)) .nil) fun r5 Hs5 hr5 => ?_
  obtain ⟨u5, rfl, rfl⟩ := hr5
  refine ⟨⟨([_], fun k => List.getD [(true, .none_), (true, .none_), (true, .none_)] k (true, .none_)), rfl⟩, ?_⟩
  refine OpH.call0 hG (FunA.gs 56 (clipSealed_c _)) (.cons (.fzA rfl (.s (.s (.s .z)))) .nil) fun r8 Hs8 hr8 => ?_
  obtain ⟨u8, rfl, rfl⟩ := hr8
  refine ⟨⟨([_, _], fun k => List.getD [(true, .none_), (true, .none_), (true, .none_)] k (true, .none_)), rfl⟩, ?_⟩
  show wpB _ _ _ _ _ _ ((9, _) :: (8, _) :: (7, _) :: (6, _) :: (5, _) :: (4, _) :: (3, _) :: _) _
  refine .n (.stF (fun y x => { x with Macs := y }) tyR29 (.t rfl) (.gs rfl (.s .z)) (.s (.s .z)) (fun _ _ => rfl) (.p (.fldW G_api_AlgebraR.l4 fd32_4 rfl (.t rfl) (.n (.stF (fun y x => { x with Boxes := y }) tyR30 (.t rfl) (.gs rfl .z) (.s (.s .z)) (fun _ _ => rfl) ?_)))))
  refine .nil ?_
  refine .seq ?_
  refine .region rfl ?_
  refine .p (.ldW tyR32 (.t rfl) (.s (.s .z)) (.p (.bS1 G_algebra_MakerR.l0 rfl tyR105 fo105 (fun c0 => (⟨c0, 0⟩ : G_algebra_MakerR)) (fun _ => rfl) rfl rfl (.t rfl) (.h (.box (.t rfl) fun b13 => .p (.assign (.t rfl) ?_))))))
  refine .nil ?_
  refine .ret ?_
  refine ⟨_, .r1 rfl (.tmp rfl), ?_⟩
  refine ⟨_, .cons .z (.cons (.s (.s .z)) (.cons (.s .z) (.nil))), ?_⟩
  exact ⟨ptr b13 0, ⟨a, 0, u5, u8⟩, rfl, rfl, rfl, rfl⟩
theorem Fail_raw (w : Value) (s : G_algebra_MakerR) (e : Int) : FunH gl Tryd.prog 83 [mp w, .v e] [.ob w s] (fun r Hs => Hs = [.ob w { s with e := if s.e = 0 then e else s.e }]) := by
  refine FunH.intro Tryd.func83 rfl (by kernel_rfl) 13 rfl rfl _ rfl _ rfl fun C hC hG => ?_
  refine .seq ?_
  refine .region rfl ?_
  refine .p (.move (.t rfl) (.p (.nilCheckL (.t rfl) (.p (.fldW G_algebra_MakerR.l1 fd105_1 rfl (.t rfl) (.p (.ldF (fun x => x.e) ty39 (.t rfl) .z (fun _ => rfl) (.p (.eqlI (.t rfl) (.i rfl) ?_)))))))))
  refine .nil ?_
  refine .condP (.t rfl) (fun hc8 => ?_) (fun hc8 => ?_)
  · refine .region rfl ?_
    refine .p (.move (.t rfl) (.p (.move (.t rfl) (.p (.nilCheckL (.t rfl) (.p (.fldW G_algebra_MakerR.l1 fd105_1 rfl (.t rfl) (.n (.stF (fun y x => { x with e := y }) ty39 (.t rfl) (.t rfl) .z (fun _ _ => rfl) ?_)))))))))
    refine .nil ?_
    refine ⟨_, .r0 rfl , ?_⟩
    have h8 : s.e = 0 := hc8
    rw [if_pos h8]; rfl
  · refine .skip ?_
    refine ⟨_, .r0 rfl , ?_⟩
    have h8 : ¬ s.e = 0 := hc8
    rw [if_neg h8]; rfl
theorem derive_fresh (seed : Tag) (n : Int) (h0 : 0 ≤ n) (h1 : n ≤ 65536) : (derive seed freshStr n).2 = 0 := by
  unfold derive
  rw [if_neg (by decide), if_neg (by simp; omega)]
def mkKey (a : Alg) (e : Int) : Tag × Alg × Int := if e ≠ 0 then (default, a, e) else ((algKey a).2.1, if (algKey a).2.2 = 0 then (algKey a).1 else a, (algKey a).2.2)
theorem mkKey_err {a : Alg} {e : Int} (h : e ≠ 0) : mkKey a e = (default, a, e) := by unfold mkKey; rw [if_pos h]
theorem mkKey_full {a : Alg} {e : Int} (h : e = 0) (h2 : 65536 ≤ a.Fresh) : mkKey a e = (default, a, 2) := by
  unfold mkKey algKey; rw [if_neg (by omega), if_pos h2]; rfl
theorem mkKey_new {a : Alg} {e : Int} (h : e = 0) (h2 : ¬ 65536 ≤ a.Fresh) : mkKey a e = ((if a.Free then symTag 107 (a.Fresh + 1) else (derive a.Seed freshStr (a.Fresh + 1)).1), ⟨a.Free, a.Seed, a.Fresh + 1, a.Macs, a.Boxes⟩, 0) := by
  unfold mkKey algKey; rw [if_neg (by omega), if_neg h2]; rfl
theorem Key_raw (w : Value) (a : Alg) (e : Int) (um ub : Value) (B1 B2 : Blk) (h0 : 0 ≤ a.Fresh) : FunH gl Tryd.prog 60 [mp w] [.ob w (rawMk a e um ub), B1, B2] (fun r Hs => r = .v (mkKey a e).1 ∧ Hs = [.ob w (rawMk (mkKey a e).2.1 (mkKey a e).2.2 um ub), B1, B2]) := by
  refine FunH.introS Tryd.func60 rfl (by kernel_rfl) 57 rfl rfl _ rfl _ rfl fun C hC hG => ?_
  refine .seq ?_
  have hr0 : (rawMk a e um ub).a.Fresh = a.Fresh := rfl
  refine .region rfl ?_
  refine .h (.alloc ty28 fun b2 => ?_)
  refine .nil ?_
  refine .seq ?_
  refine .seq ?_
  refine .region rfl ?_
  refine .p (.move (.t rfl) (.p (.nilCheckL (.t rfl) (.p (.fldW G_algebra_MakerR.l0 fd105_0 rfl (.t rfl) (.p (.fldL G_api_AlgebraR.l2 fd32_2 rfl (.t rfl) (.p (.ldF (fun x => x.a.Fresh) ty3 (.t rfl) (.s .z) (fun _ => rfl) (.p (.geq (.t rfl) (.i rfl) ?_)))))))))))
  refine .nil ?_
  refine .condP (.t rfl) (fun hc10 => ?_) (fun hc10 => ?_)
  · refine .region rfl ?_
    refine .p (.move (.t rfl) (.h (.callM hG (Fail_raw _ _ _) (.s .z) (.cons (.t rfl) (.cons (.i rfl) .nil)) (by rintro _ _ rfl; exact ⟨_, rfl⟩) fun r12 B12 hr12 => ?_)))
    cases hr12
    refine .nil ?_
    refine .seq ?_
    refine .seq ?_
    refine .region rfl ?_
    refine .p (.move (.t rfl) (.p (.nilCheckL (.t rfl) (.p (.fldW G_algebra_MakerR.l1 fd105_1 rfl (.t rfl) (.p (.ldF (fun x => x.e) ty39 (.t rfl) (.s .z) (fun _ => rfl) (.p (.neqI (.t rfl) (.i rfl) ?_)))))))))
    refine .nil ?_
    refine .condP (.t rfl) (fun hc17 => ?_) (fun hc17 => (by exfalso; apply hc17; show (if e = 0 then (2 : Int) else e) ≠ 0; split <;> omega))
    refine .seq ?_
    refine .region rfl ?_
    refine .p (.buildA (default : (Arr 32 UInt8)) ty28 ar28 .nil rfl (.n (.stW ty28 (.t rfl) (.t rfl) .z ?_)))
    refine .nil ?_
    refine .ret ?_
    refine ⟨_, .r1 rfl (.cell ty28 rfl .z), ?_⟩
    refine ⟨_, .cons (.s .z) (.cons (.s (.s .z)) (.cons (.s (.s (.s .z))) (.nil))), ?_⟩
    have h9 : 65536 ≤ a.Fresh := hc10
    by_cases he : e = 0
    · rw [mkKey_full he h9, he]; exact ⟨rfl, rfl⟩
    · rw [mkKey_err he]; refine ⟨rfl, ?_⟩; show [Blk.ob w (G_algebra_MakerR.mk _ (if e = 0 then (2 : Int) else e)), _, _] = _; rw [if_neg he]; rfl
  · refine .skip ?_
    refine .seq ?_
    refine .seq ?_
    refine .region rfl ?_
    refine .p (.move (.t rfl) (.p (.nilCheckL (.t rfl) (.p (.fldW G_algebra_MakerR.l1 fd105_1 rfl (.t rfl) (.p (.ldF (fun x => x.e) ty39 (.t rfl) (.s .z) (fun _ => rfl) (.p (.neqI (.t rfl) (.i rfl) ?_)))))))))
    refine .nil ?_
    refine .condP (.t rfl) (fun hc17 => ?_) (fun hc17 => ?_)
    · refine .seq ?_
      refine .region rfl ?_
      refine .p (.buildA (default : (Arr 32 UInt8)) ty28 ar28 .nil rfl (.n (.stW ty28 (.t rfl) (.t rfl) .z ?_)))
      refine .nil ?_
      refine .ret ?_
      refine ⟨_, .r1 rfl (.cell ty28 rfl .z), ?_⟩
      refine ⟨_, .cons (.s .z) (.cons (.s (.s .z)) (.cons (.s (.s (.s .z))) (.nil))), ?_⟩
      have he : e ≠ 0 := hc17
      rw [mkKey_err he]; exact ⟨rfl, rfl⟩
    · refine .skip ?_
      refine .seq ?_
      refine .region rfl ?_
      refine .p (.move (.t rfl) (.p (.nilCheckL (.t rfl) (.p (.fldW G_algebra_MakerR.l0 fd105_0 rfl (.t rfl) (.p (.fldL G_api_AlgebraR.l2 fd32_2 rfl (.t rfl) (.p (.ldF (fun x => x.a.Fresh) ty3 (.t rfl) (.s .z) (fun _ => rfl) (.p (.add (.t rfl) (.i rfl) (by first | omega | (simp; done) | (simp; omega) | (simp at *; omega)) (by first | omega | (simp; done) | (simp; omega) | (simp at *; omega)) ?_)))))))))))
      refine .p (.nilCheckL (.t rfl) (.p (.fldW G_algebra_MakerR.l0 fd105_0 rfl (.t rfl) (.p (.fldL G_api_AlgebraR.l2 fd32_2 rfl (.t rfl) (.n (.stF (fun y x => { x with a.Fresh := y }) ty3 (.t rfl) (.t rfl) (.s .z) (fun _ _ => rfl) ?_)))))))
      refine .nil ?_
      refine .seq ?_
      refine .seq ?_
      refine .region rfl ?_
      refine .p (.move (.t rfl) (.p (.nilCheckL (.t rfl) (.p (.fldW G_algebra_MakerR.l0 fd105_0 rfl (.t rfl) (.p (.fldL G_api_AlgebraR.l0 fd32_0 rfl (.t rfl) (.p (.ldF (fun x => x.a.Free) ty4 (.t rfl) (.s .z) (fun _ => rfl) ?_)))))))))
      refine .nil ?_
      refine .cond (.t rfl) (fun hc32 => ?_) (fun hc32 => ?_)
      · refine .seq ?_
        refine .region rfl ?_
        refine .p (.move (.t rfl) (.p (.nilCheckL (.t rfl) (.p (.fldW G_algebra_MakerR.l0 fd105_0 rfl (.t rfl) (.p (.fldL G_api_AlgebraR.l2 fd32_2 rfl (.t rfl) (.p (.ldF (fun x => x.a.Fresh) ty3 (.t rfl) (.s .z) (fun _ => rfl) (.p (.call1 hG (Symbol_c _ _) (.cons (.u8 107 rfl) (.cons (.t rfl) .nil)) ?_)))))))))))
        refine .n (.stW ty28 (.t rfl) (.t rfl) .z ?_)
        refine .nil ?_
        refine .ret ?_
        refine ⟨_, .r1 rfl (.cell ty28 rfl .z), ?_⟩
        refine ⟨_, .cons (.s .z) (.cons (.s (.s .z)) (.cons (.s (.s (.s .z))) (.nil))), ?_⟩
        have he : e = 0 := by have h9 : ¬ (e ≠ 0) := hc17; omega
        rw [mkKey_new he hc10, if_pos (show a.Free = true from hc32), he]; exact ⟨rfl, rfl⟩
      · refine .skip ?_
        refine .seq ?_
        refine .drawCF [false, false, false, false] (by kernel_rfl) 17 [[], [(40, 0)], [(41, 1)], [(42, 2)], [(43, 3)], [], [(45, 5)], [(46, 6)], [(47, 7)], [(48, 8)], [(44, 4), (49, 9)], [(50, 10)], [(39, 11)], [(39, 11)], [], [(3, 14), (51, 12)], [(52, 13)]] [14, 15] rfl (by kernel_rfl) rfl (by kernel_rfl) (by decide) ?_
        refine ⟨_, fun H => OpP.move (.t rfl) rfl, ?_⟩
        refine ⟨_, fun H => OpP.nilCheckL (.t rfl) rfl, ?_⟩
        refine ⟨_, fun H => OpP.fldW G_algebra_MakerR.l0 fd105_0 rfl (.t rfl) rfl, ?_⟩
        refine ⟨_, fun H => OpP.fldL G_api_AlgebraR.l1 fd32_1 rfl (.t rfl) rfl, ?_⟩
        refine ⟨_, fun H => OpP.ldF (fun x => x.a.Seed) ty28 (.t rfl) (Hole.app (.s .z)) (fun _ => rfl) rfl, ?_⟩
        refine ⟨_, fun H => OpP.move (.t rfl) rfl, ?_⟩
        refine ⟨_, fun H => OpP.nilCheckL (.t rfl) rfl, ?_⟩
        refine ⟨_, fun H => OpP.fldW G_algebra_MakerR.l0 fd105_0 rfl (.t rfl) rfl, ?_⟩
        refine ⟨_, fun H => OpP.fldL G_api_AlgebraR.l2 fd32_2 rfl (.t rfl) rfl, ?_⟩
        refine ⟨_, fun H => OpP.ldF (fun x => x.a.Fresh) ty3 (.t rfl) (Hole.app (.s .z)) (fun _ => rfl) rfl, ?_⟩
        refine ⟨_, fun H => OpP.call1 hG (Derive_c _ _ _ (by decide)) (.cons (.t rfl) (.cons (.s [102, 114, 101, 115, 104] (by decide) (by decide)) (.cons (.t rfl) .nil))) rfl, ?_⟩
        refine ⟨_, fun H => OpP.move (.t rfl) rfl, ?_⟩
        refine ⟨_, fun H => OpP.ext2_0 (.t rfl) rfl, ?_⟩
        refine ⟨_, fun H => OpP.ext2_1 (.t rfl) rfl, ?_⟩
        refine .inl ?_
        refine .inl ?_
        refine ⟨_, fun H => OpP.assign (.t rfl) rfl, ?_⟩
        refine ⟨⟨([], fun k => List.getD [(true, .none_), (true, .none_), (true, .none_), (true, .none_)] k (true, .none_)), rfl⟩, ?_⟩
        refine OpH.alloc ty28 fun b3 => ?_
        refine ⟨⟨([_], fun k => List.getD [(true, .none_), (true, .none_), (true, .none_), (true, .none_)] k (true, .none_)), rfl⟩, ?_⟩
        refine OpH.stW ty28 (.t rfl) (.t rfl) .z ?_
        refine ⟨⟨([_], fun k => List.getD [(true, .none_), (true, .none_), (true, .none_), (true, .none_)] k (true, .none_)), rfl⟩, ?_⟩
        show wpB _ _ _ _ _ _ ((4, _) :: (3, _) :: (52, _) :: (51, _) :: (39, _) :: (50, _) :: (49, _) :: (48, _) :: (47, _) :: (46, _) :: (45, _) :: (44, _) :: (43, _) :: (42, _) :: (41, _) :: (40, _) :: _) _
        refine .nil ?_
        refine .seq ?_
        refine .region rfl ?_
        refine .p (.move (.t rfl) (.p (.move (.t rfl) (.h (.callM hG (Fail_raw _ _ _) (.s (.s .z)) (.cons (.t rfl) (.cons (.t rfl) .nil)) (by rintro _ _ rfl; exact ⟨_, rfl⟩) fun r55 B55 hr55 => ?_)))))
        cases hr55
        refine .nil ?_
        refine .seq ?_
        refine .region rfl ?_
        refine .p (.ldW ty28 (.t rfl) .z (.n (.stW ty28 (.t rfl) (.t rfl) (.s .z) ?_)))
        refine .nil ?_
        refine .ret ?_
        refine ⟨_, .r1 rfl (.cell ty28 rfl (.s .z)), ?_⟩
        refine ⟨_, .cons (.s (.s .z)) (.cons (.s (.s (.s .z))) (.cons (.s (.s (.s (.s .z)))) (.nil))), ?_⟩
        have he : e = 0 := by have h9 : ¬ (e ≠ 0) := hc17; omega
        have hf : ¬ (a.Free = true) := by rw [show a.Free = false from hc32]; decide
        have h10 : ¬ 65536 ≤ a.Fresh := hc10
        have hd := derive_fresh a.Seed (a.Fresh + 1) (by omega) (by omega)
        rw [mkKey_new he hc10, if_neg hf]; refine ⟨rfl, ?_⟩
        show [Blk.ob w (G_algebra_MakerR.mk _ (if e = 0 then (derive a.Seed freshStr (a.Fresh + 1)).2 else e)), _, _] = _
        rw [hd, he]; rfl
def mkMac (a : Alg) (e : Int) (k : Tag) (m : List UInt8) : Tag × Alg × Int := if e ≠ 0 then (default, a, e) else ((algMac a k m).2.1, if (algMac a k m).2.2 = 0 then (algMac a k m).1 else a, (algMac a k m).2.2)
theorem mkMac_err {a : Alg} {e : Int} {k : Tag} {m : List UInt8} (h : e ≠ 0) : mkMac a e k m = (default, a, e) := by unfold mkMac; rw [if_pos h]
theorem mkMac_of {a : Alg} {e : Int} {k : Tag} {m : List UInt8} (h : e = 0) {r} (h2 : algMac a k m = r) : mkMac a e k m = (r.2.1, if r.2.2 = 0 then r.1 else a, r.2.2) := by unfold mkMac; rw [if_neg (by omega), h2]
theorem idx_lt {α : Type} {l : List α} {p : α → Bool} (h : 0 ≤ idx l p) : idx l p < l.length := by
  unfold idx at *; split at h <;> split <;> omega
theorem idx_get {α : Type} {l : List α} {p : α → Bool} (h : 0 ≤ idx l p) (h2 : (idx l p).toNat < l.length) : l.find? p = some l[(idx l p).toNat] := by
  have h3 : l.findIdx p < l.length := by unfold idx at h; split at h <;> omega
  have h4 : (idx l p).toNat = l.findIdx p := by unfold idx; rw [if_pos h3]; rfl
  simp only [h4]
  exact List.find?_eq_some_iff_getElem.2 ⟨List.findIdx_getElem (w := h3), _, h3, rfl, fun j hj => by simpa using List.not_of_lt_findIdx hj⟩
theorem idx_neg {α : Type} {l : List α} {p : α → Bool} (h : ¬ 0 ≤ idx l p) : l.find? p = none := by
  unfold idx at h
  split at h
  · omega
  · next h3 => exact List.find?_eq_none.2 fun x hx hp => h3 (List.findIdx_lt_length_of_exists ⟨x, hx, hp⟩)
theorem algMac_at {a : Alg} {k : Tag} {m : List UInt8} (h : ¬ 4096 < m.length) (hi : 0 ≤ idx a.Macs (macEq k m)) (h2 : (idx a.Macs (macEq k m)).toNat < a.Macs.length) : algMac a k m = (a, a.Macs[(idx a.Macs (macEq k m)).toNat].Tag, 0) := by
  unfold algMac algFind; rw [if_neg h, idx_get hi h2]
theorem Mac_raw (w : Value) (a : Alg) (e : Int) (um ub : Value) (B : Blk) (k : Tag) (m : List UInt8) (hl : a.Macs.length ≤ 1000000) : FunH gl Tryd.prog 54 [mp w, .v k, .v m] [.ob w (rawMk a e um ub), gsM um a, B]
    (fun r Hs => ∃ um', r = .v (mkMac a e k m).1 ∧ Hs = [.ob w (rawMk (mkMac a e k m).2.1 (mkMac a e k m).2.2 um' ub), gsM um' (mkMac a e k m).2.1, B]) := by
  refine FunH.introS Tryd.func54 rfl (by kernel_rfl) 80 rfl rfl _ rfl _ rfl fun C hC hG => ?_
  refine .seq ?_
  have hr0 : (rawMk a e um ub).a.Fresh = a.Fresh := rfl
  refine .region rfl ?_
  refine .h (.box (.t rfl) fun b4 => .h (.alloc ty28 fun b6 => ?_))
  refine .nil ?_
  refine .seq ?_
  refine .seq ?_
  refine .frzOb hC (.s .z) ?_
  refine .asP 4 rfl (.s .z) ?_
  refine .region rfl ?_
  refine .p (.move (.t rfl) (.p (.len Tryd.underlying23 (.t rfl) (.p (.gtr (.t rfl) (.i rfl) ?_)))))
  refine .nil ?_
  refine .condP (.t rfl) (fun hc12 => ?_) (fun hc12 => ?_)
  · refine .region rfl ?_
    refine .p (.move (.t rfl) (.h (.callM hG (Fail_raw _ _ _) (.s (.s .z)) (.cons (.t rfl) (.cons (.i rfl) .nil)) (by rintro _ _ rfl; exact ⟨_, rfl⟩) fun r14 B14 hr14 => ?_)))
    cases hr14
    refine .nil ?_
    refine .seq ?_
    refine .seq ?_
    refine .region rfl ?_
    refine .p (.move (.t rfl) (.p (.nilCheckL (.t rfl) (.p (.fldW G_algebra_MakerR.l1 fd105_1 rfl (.t rfl) (.p (.ldF (fun x => x.e) ty39 (.t rfl) (.s (.s .z)) (fun _ => rfl) (.p (.neqI (.t rfl) (.i rfl) ?_)))))))))
    refine .nil ?_
    refine .condP (.t rfl) (fun hc19 => ?_) (fun hc19 => (by exfalso; apply hc19; show (if e = 0 then (2 : Int) else e) ≠ 0; split <;> omega))
    refine .seq ?_
    refine .region rfl ?_
    refine .p (.buildA (default : (Arr 32 UInt8)) ty28 ar28 .nil rfl (.n (.stW ty28 (.t rfl) (.t rfl) .z ?_)))
    refine .nil ?_
    refine .ret ?_
    refine ⟨_, .r1 rfl (.cell ty28 rfl .z), ?_⟩
    refine ⟨_, .cons (.s (.s .z)) (.cons (.s (.s (.s .z))) (.cons (.s (.s (.s (.s .z)))) (.nil))), ?_⟩
    by_cases he : e = 0
    · rw [mkMac_of he (algMac_long (by omega))]; exact ⟨um, rfl, by rw [he]; rfl⟩
    · rw [mkMac_err he]; refine ⟨um, rfl, ?_⟩; show Blk.ob w (G_algebra_MakerR.mk _ (if e = 0 then (2 : Int) else e)) :: _ = _; rw [if_neg he]; rfl
  · refine .skip ?_
    refine .seq ?_
    refine .seq ?_
    refine .region rfl ?_
    refine .p (.move (.t rfl) (.p (.nilCheckL (.t rfl) (.p (.fldW G_algebra_MakerR.l1 fd105_1 rfl (.t rfl) (.p (.ldF (fun x => x.e) ty39 (.t rfl) (.s (.s .z)) (fun _ => rfl) (.p (.neqI (.t rfl) (.i rfl) ?_)))))))))
    refine .nil ?_
    refine .condP (.t rfl) (fun hc19 => ?_) (fun hc19 => ?_)
    · refine .seq ?_
      refine .region rfl ?_
      refine .p (.buildA (default : (Arr 32 UInt8)) ty28 ar28 .nil rfl (.n (.stW ty28 (.t rfl) (.t rfl) .z ?_)))
      refine .nil ?_
      refine .ret ?_
      refine ⟨_, .r1 rfl (.cell ty28 rfl .z), ?_⟩
      refine ⟨_, .cons (.s (.s .z)) (.cons (.s (.s (.s .z))) (.cons (.s (.s (.s (.s .z)))) (.nil))), ?_⟩
      have he : e ≠ 0 := hc19
      rw [mkMac_err he]; exact ⟨um, rfl, rfl⟩
    · refine .skip ?_
      refine .seq ?_
      refine .seq ?_
      refine .draw (by kernel_rfl) 9 [[], [(21, 0)], [(22, 1)], [(23, 2)], [(24, 3)], [], [], [(25, 4), (26, 5), (27, 6)], [(28, 7)]] rfl (by kernel_rfl) rfl ?_
      refine ⟨_, OpP.move (.t rfl) rfl, ?_⟩
      refine ⟨_, OpP.nilCheckL (.t rfl) rfl, ?_⟩
      refine ⟨_, OpP.fldW G_algebra_MakerR.l0 fd105_0 rfl (.t rfl) rfl, ?_⟩
      refine ⟨_, OpP.fldL G_api_AlgebraR.l3 fd32_3 rfl (.t rfl) rfl, ?_⟩
      refine ⟨_, OpP.ldR (fun x => x.a.Macs) tyR29 (.t rfl) (.s (.s .z)) (fun _ => rfl) rfl, ?_⟩
      refine ⟨_, OpP.ldP ty28 (.t rfl) rfl, ?_⟩
      refine ⟨_, OpP.move (.t rfl) rfl, ?_⟩
      refine ⟨_, OpP.lend1 hG (find_c _ _ _) (.cons (.gs rfl (.s (.s (.s .z)))) (.cons (.e (.t rfl)) (.cons (.e (.t rfl)) .nil))) (by first | exact .v | exact .t2 .v .v | exact .t3 .v .v .v) rfl, ?_⟩
      refine ⟨_, OpP.assign (.t rfl) rfl, ?_⟩
      show wpB _ _ _ _ _ _ ((7, _) :: (28, _) :: (27, _) :: (26, _) :: (25, _) :: (24, _) :: (23, _) :: (22, _) :: (21, _) :: _) _
      refine .nil ?_
      refine .seq ?_
      refine .region rfl ?_
      refine .p (.move (.t rfl) (.p (.geq (.t rfl) (.i rfl) ?_)))
      refine .nil ?_
      refine .condP (.t rfl) (fun hc30 => ?_) (fun hc30 => ?_)
      · refine .seq ?_
        refine .gsCases (.s (.s (.s .z))) ?_ ?_
        · have hi7 : 0 ≤ idx a.Macs (macEq k m) := hc30
          have hl7 := idx_lt hi7
          refine .region rfl ?_
          refine .p (.move (.t rfl) (.p (.nilCheckL (.t rfl) (.p (.fldW G_algebra_MakerR.l0 fd105_0 rfl (.t rfl) (.p (.fldL G_api_AlgebraR.l3 fd32_3 rfl (.t rfl) (.p (.ldR (fun x => x.a.Macs) tyR29 (.t rfl) (.s (.s .z)) (fun _ => rfl) ?_)))))))))
          refine .p (.move (.t rfl) (.p (.idx ty38 Tryd.underlying29 (.fzC rfl (.s (.s (.s .z)))) (.t rfl) (by first | omega | (simp; done) | (simp; omega) | (simp at *; omega)) (by first | omega | (simp; done) | (simp; omega) | (simp at *; omega)) (.p (.fldPF G_api_Mac.l2 (fun x => x.Tag) fd38_2 rfl (fun _ => rfl) (.t rfl) (.p (.ldP ty28 (.t rfl) (.n (.stW ty28 (.t rfl) (.t rfl) .z ?_)))))))))
          refine .nil ?_
          refine .ret ?_
          refine ⟨_, .r1 rfl (.cell ty28 rfl .z), ?_⟩
          refine ⟨_, .cons (.s (.s .z)) (.gsC (.s (.s (.s .z))) (.cons (.s (.s (.s (.s .z)))) (.nil))), ?_⟩
          have he : e = 0 := by have h9 : ¬ (e ≠ 0) := hc19; omega
          rw [mkMac_of he (algMac_at (by omega) hi7 (by omega))]; exact ⟨um, rfl, by rw [he]; rfl⟩
        · have hi7 : 0 ≤ idx a.Macs (macEq k m) := hc30
          have hl7 := idx_lt hi7
          refine .region rfl ?_
          refine .p (.move (.t rfl) (.p (.nilCheckL (.t rfl) (.p (.fldW G_algebra_MakerR.l0 fd105_0 rfl (.t rfl) (.p (.fldL G_api_AlgebraR.l3 fd32_3 rfl (.t rfl) (.p (.ldR (fun x => x.a.Macs) tyR29 (.t rfl) (.s (.s .z)) (fun _ => rfl) ?_)))))))))
          refine .p (.move (.t rfl) (.p (.idxOwn ty38 Tryd.underlying29 rfl (.s (.s (.s .z))) (.t rfl) (by first | omega | (simp; done) | (simp; omega) | (simp at *; omega)) (by first | omega | (simp; done) | (simp; omega) | (simp at *; omega)) (.p (.fldE G_api_Mac.l2 fd38_2 rfl (.t rfl) (.p (.ldE ty28 (.t rfl) (.s (.s (.s .z))) (by first | omega | (simp; done) | (simp; omega) | (simp at *; omega)) (.n (.stW ty28 (.t rfl) (.t rfl) .z ?_)))))))))
          refine .nil ?_
          refine .ret ?_
          refine ⟨_, .r1 rfl (.cell ty28 rfl .z), ?_⟩
          refine ⟨_, .cons (.s (.s .z)) (.gsO (.s (.s (.s .z))) (.cons (.s (.s (.s (.s .z)))) (.nil))), ?_⟩
          have he : e = 0 := by have h9 : ¬ (e ≠ 0) := hc19; omega
          rw [mkMac_of he (algMac_at (by omega) hi7 (by omega))]; exact ⟨um, rfl, by rw [he]; rfl⟩
      · refine .skip ?_
        refine .seq ?_
        refine .region rfl ?_
        refine .p (.move (.t rfl) (.p (.nilCheckL (.t rfl) (.p (.fldW G_algebra_MakerR.l0 fd105_0 rfl (.t rfl) (.p (.fldL G_api_AlgebraR.l3 fd32_3 rfl (.t rfl) (.p (.ldR (fun x => x.a.Macs) tyR29 (.t rfl) (.s (.s .z)) (fun _ => rfl) ?_)))))))))
        refine .p (.lenGS Tryd.underlying29 rfl (.s (.s (.s .z))) (.p (.add (.t rfl) (.i rfl) (by first | omega | (simp; done) | (simp; omega) | (simp at *; omega)) (by first | omega | (simp; done) | (simp; omega) | (simp at *; omega)) (.p (.assign (.t rfl) ?_)))))
        refine .nil ?_
        refine .seq ?_
        refine .seq ?_
        refine .region rfl ?_
        refine .p (.move (.t rfl) (.p (.gtr (.t rfl) (.i rfl) ?_)))
        refine .nil ?_
        refine .condP (.t rfl) (fun hc48 => ?_) (fun hc48 => ?_)
        · refine .seq ?_
          refine .region rfl ?_
          refine .p (.move (.t rfl) (.h (.callM hG (Fail_raw _ _ _) (.s (.s .z)) (.cons (.t rfl) (.cons (.i rfl) .nil)) (by rintro _ _ rfl; exact ⟨_, rfl⟩) fun r50 B50 hr50 => ?_)))
          cases hr50
          refine .nil ?_
          refine .seq ?_
          refine .region rfl ?_
          refine .p (.buildA (default : (Arr 32 UInt8)) ty28 ar28 .nil rfl (.n (.stW ty28 (.t rfl) (.t rfl) .z ?_)))
          refine .nil ?_
          refine .ret ?_
          refine ⟨_, .r1 rfl (.cell ty28 rfl .z), ?_⟩
          refine ⟨_, .cons (.s (.s .z)) (.cons (.s (.s (.s .z))) (.cons (.s (.s (.s (.s .z)))) (.nil))), ?_⟩
          have he : e = 0 := by have h9 : ¬ (e ≠ 0) := hc19; omega
          have hf := idx_neg hc30
          rw [mkMac_of he (algMac_full (by omega) hf (by simp at hc48; omega))]; exact ⟨um, rfl, by rw [he]; rfl⟩
        · refine .skip ?_
          refine .seq ?_
          refine .region rfl ?_
          refine .p (.move (.t rfl) (.p (.call1 hG (Symbol_c _ _) (.cons (.u8 109 rfl) (.cons (.t rfl) .nil)) (.h (.alloc ty28 fun b9 => .n (.stW ty28 (.t rfl) (.t rfl) .z ?_))))))
          refine .nil ?_
          refine .seq ?_
          refine .seq ?_
          refine .region rfl ?_
          refine .p (.move (.t rfl) (.p (.nilCheckL (.t rfl) (.p (.fldW G_algebra_MakerR.l0 fd105_0 rfl (.t rfl) (.p (.fldL G_api_AlgebraR.l0 fd32_0 rfl (.t rfl) (.p (.ldF (fun x => x.a.Free) ty4 (.t rfl) (.s (.s (.s .z))) (fun _ => rfl) (.p (.not (.t rfl) ?_)))))))))))
          refine .nil ?_
          refine .cond (.t rfl) (fun hc59 => ?_) (fun hc59 => ?_)
          · refine .region rfl ?_
            refine .p (.slArrP (by decide) ar28 (.t rfl) (.p (.move (.t rfl) (.p (.call1 hG (hmacOf_c _ _ (by first | omega | (simp; done) | (simp; omega) | (simp at *; omega)) (by first | omega | (simp; done) | (simp; omega) | (simp at *; omega))) (.cons (.t rfl) (.cons (.t rfl) .nil)) (.n (.stW ty28 (.t rfl) (.t rfl) .z ?_)))))))
            refine .nil ?_
            refine .seq ?_
            refine .drawCF [false, false, false, false, true, false] (by kernel_rfl) 16 [[], [], [(64, 1)], [(65, 2)], [(66, 3)], [(67, 4)], [], [], [(70, 7)], [], [(69, 6), (71, 8), (72, 9)], [(73, 10)], [(68, 5), (74, 11)], [(63, 0)], [(76, 13)], [(77, 14)]] [5, 12] rfl (by kernel_rfl) rfl (by kernel_rfl) (by decide) ?_
            refine ⟨_, fun H => OpP.move (.t rfl) rfl, ?_⟩
            refine ⟨_, fun H => OpP.move (.t rfl) rfl, ?_⟩
            refine ⟨_, fun H => OpP.nilCheckL (.t rfl) rfl, ?_⟩
            refine ⟨_, fun H => OpP.fldW G_algebra_MakerR.l0 fd105_0 rfl (.t rfl) rfl, ?_⟩
            refine ⟨_, fun H => OpP.fldL G_api_AlgebraR.l3 fd32_3 rfl (.t rfl) rfl, ?_⟩
            refine .inl ?_
            refine ⟨_, fun H => OpP.ldP ty28 (.t rfl) rfl, ?_⟩
            refine ⟨_, fun H => OpP.move (.t rfl) rfl, ?_⟩
            refine ⟨_, fun H => OpP.call1 hG (bytesClone_c _ (by first | omega | (simp; done) | (simp; omega) | (simp at *; omega))) (.cons (.t rfl) .nil) rfl, ?_⟩
            refine ⟨_, fun H => OpP.ldW ty28 (.t rfl) (Hole.app .z) rfl, ?_⟩
            refine ⟨_, fun H => OpP.bS3 G_api_Mac.l0 G_api_Mac.l1 G_api_Mac.l2 rfl ty38 fo38 (fun c0 c1 c2 => (⟨c0, c1, c2⟩ : G_api_Mac)) (fun _ _ _ => rfl) rfl rfl rfl rfl (.t rfl) (.t rfl) (.t rfl) rfl, ?_⟩
            refine ⟨_, fun H => OpP.buildSliceF (α := G_api_Mac) ty38 Tryd.underlying29 (.cons (.t rfl) .nil) rfl (by decide) rfl, ?_⟩
            refine .inl ?_
            refine ⟨_, fun H => OpP.nilCheckL (.t rfl) rfl, ?_⟩
            refine ⟨_, fun H => OpP.fldW G_algebra_MakerR.l0 fd105_0 rfl (.t rfl) rfl, ?_⟩
            refine ⟨_, fun H => OpP.fldL G_api_AlgebraR.l3 fd32_3 rfl (.t rfl) rfl, ?_⟩
            refine ⟨⟨([], fun k => List.getD [(true, .none_), (true, .none_), (true, .none_), (true, .none_), _, (true, .none_)] k (true, .none_)), rfl⟩, ?_⟩
            refine OpH.ofP (OpP.ldR (fun x => x.a.Macs) tyR29 (.t rfl) (.s (.s (.s .z))) (fun _ => rfl) ?_)
            refine ⟨⟨([], fun k => List.getD [(true, .none_), (true, .none_), (true, .none_), (true, .none_), _, (true, .none_)] k (true, .none_)), rfl⟩, ?_⟩
            refine OpH.appendGS st29 (.inl ⟨_, Tryd.underlying29⟩) rfl (.s (.s (.s (.s .z)))) (.v (.c rfl)) (by first | omega | (simp; done) | (simp; omega) | (simp at *; omega)) (by first | omega | (simp; done) | (simp; omega) | (simp at *; omega)) fun w75 => ?_
            refine ⟨⟨([], fun k => List.getD [(true, .none_), (true, .none_), (true, .none_), (true, .none_), _, (true, .none_)] k (true, .none_)), rfl⟩, ?_⟩
            show wpB _ _ _ _ _ _ ((78, _) :: (77, _) :: (76, _) :: (75, _) :: (74, _) :: (73, _) :: (72, _) :: (71, _) :: (70, _) :: (69, _) :: (68, _) :: (67, _) :: (66, _) :: (65, _) :: (64, _) :: (63, _) :: _) _
            refine .n (.stF (fun y x => { x with a.Macs := y }) tyR29 (.t rfl) (.gs rfl (.s (.s (.s (.s .z))))) (.s (.s (.s .z))) (fun _ _ => rfl) ?_)
            refine .nil ?_
            refine .seq ?_
            refine .region rfl ?_
            refine .p (.ldW ty28 (.t rfl) .z (.n (.stW ty28 (.t rfl) (.t rfl) (.s .z) ?_)))
            refine .nil ?_
            refine .ret ?_
            refine ⟨_, .r1 rfl (.cell ty28 rfl (.s .z)), ?_⟩
            refine ⟨_, .cons (.s (.s (.s .z))) (.cons (.s (.s (.s (.s .z)))) (.cons (.s (.s (.s (.s (.s .z))))) (.nil))), ?_⟩
            have he : e = 0 := by have h9 : ¬ (e ≠ 0) := hc19; omega
            have hf := idx_neg hc30
            rw [mkMac_of he (algMac_new (by omega) hf (by simp at hc48; omega)), newTag_real (show a.Free = false from by have h9 : (!a.Free) = true := hc59; simpa using h9)]; exact ⟨w75, rfl, by rw [he]; rfl⟩
          · refine .skip ?_
            refine .seq ?_
            refine .drawCF [false, false, false, false, true, false] (by kernel_rfl) 16 [[], [], [(64, 1)], [(65, 2)], [(66, 3)], [(67, 4)], [], [], [(70, 7)], [], [(69, 6), (71, 8), (72, 9)], [(73, 10)], [(68, 5), (74, 11)], [(63, 0)], [(76, 13)], [(77, 14)]] [5, 12] rfl (by kernel_rfl) rfl (by kernel_rfl) (by decide) ?_
            refine ⟨_, fun H => OpP.move (.t rfl) rfl, ?_⟩
            refine ⟨_, fun H => OpP.move (.t rfl) rfl, ?_⟩
            refine ⟨_, fun H => OpP.nilCheckL (.t rfl) rfl, ?_⟩
            refine ⟨_, fun H => OpP.fldW G_algebra_MakerR.l0 fd105_0 rfl (.t rfl) rfl, ?_⟩
            refine ⟨_, fun H => OpP.fldL G_api_AlgebraR.l3 fd32_3 rfl (.t rfl) rfl, ?_⟩
            refine .inl ?_
            refine ⟨_, fun H => OpP.ldP ty28 (.t rfl) rfl, ?_⟩
            refine ⟨_, fun H => OpP.move (.t rfl) rfl, ?_⟩
            refine ⟨_, fun H => OpP.call1 hG (bytesClone_c _ (by first | omega | (simp; done) | (simp; omega) | (simp at *; omega))) (.cons (.t rfl) .nil) rfl, ?_⟩
            refine ⟨_, fun H => OpP.ldW ty28 (.t rfl) (Hole.app .z) rfl, ?_⟩
            refine ⟨_, fun H => OpP.bS3 G_api_Mac.l0 G_api_Mac.l1 G_api_Mac.l2 rfl ty38 fo38 (fun c0 c1 c2 => (⟨c0, c1, c2⟩ : G_api_Mac)) (fun _ _ _ => rfl) rfl rfl rfl rfl (.t rfl) (.t rfl) (.t rfl) rfl, ?_⟩
            refine ⟨_, fun H => OpP.buildSliceF (α := G_api_Mac) ty38 Tryd.underlying29 (.cons (.t rfl) .nil) rfl (by decide) rfl, ?_⟩
            refine .inl ?_
            refine ⟨_, fun H => OpP.nilCheckL (.t rfl) rfl, ?_⟩
            refine ⟨_, fun H => OpP.fldW G_algebra_MakerR.l0 fd105_0 rfl (.t rfl) rfl, ?_⟩
            refine ⟨_, fun H => OpP.fldL G_api_AlgebraR.l3 fd32_3 rfl (.t rfl) rfl, ?_⟩
            refine ⟨⟨([], fun k => List.getD [(true, .none_), (true, .none_), (true, .none_), (true, .none_), _, (true, .none_)] k (true, .none_)), rfl⟩, ?_⟩
            refine OpH.ofP (OpP.ldR (fun x => x.a.Macs) tyR29 (.t rfl) (.s (.s (.s .z))) (fun _ => rfl) ?_)
            refine ⟨⟨([], fun k => List.getD [(true, .none_), (true, .none_), (true, .none_), (true, .none_), _, (true, .none_)] k (true, .none_)), rfl⟩, ?_⟩
            refine OpH.appendGS st29 (.inl ⟨_, Tryd.underlying29⟩) rfl (.s (.s (.s (.s .z)))) (.v (.c rfl)) (by first | omega | (simp; done) | (simp; omega) | (simp at *; omega)) (by first | omega | (simp; done) | (simp; omega) | (simp at *; omega)) fun w75 => ?_
            refine ⟨⟨([], fun k => List.getD [(true, .none_), (true, .none_), (true, .none_), (true, .none_), _, (true, .none_)] k (true, .none_)), rfl⟩, ?_⟩
            show wpB _ _ _ _ _ _ ((78, _) :: (77, _) :: (76, _) :: (75, _) :: (74, _) :: (73, _) :: (72, _) :: (71, _) :: (70, _) :: (69, _) :: (68, _) :: (67, _) :: (66, _) :: (65, _) :: (64, _) :: (63, _) :: _) _
            refine .n (.stF (fun y x => { x with a.Macs := y }) tyR29 (.t rfl) (.gs rfl (.s (.s (.s (.s .z))))) (.s (.s (.s .z))) (fun _ _ => rfl) ?_)
            refine .nil ?_
            refine .seq ?_
            refine .region rfl ?_
            refine .p (.ldW ty28 (.t rfl) .z (.n (.stW ty28 (.t rfl) (.t rfl) (.s .z) ?_)))
            refine .nil ?_
            refine .ret ?_
            refine ⟨_, .r1 rfl (.cell ty28 rfl (.s .z)), ?_⟩
            refine ⟨_, .cons (.s (.s (.s .z))) (.cons (.s (.s (.s (.s .z)))) (.cons (.s (.s (.s (.s (.s .z))))) (.nil))), ?_⟩
            have he : e = 0 := by have h9 : ¬ (e ≠ 0) := hc19; omega
            have hf := idx_neg hc30
            rw [mkMac_of he (algMac_new (by omega) hf (by simp at hc48; omega)), newTag_free (show a.Free = true from by have h9 : (!a.Free) = false := hc59; simpa using h9)]; exact ⟨w75, rfl, by rw [he]; rfl⟩
theorem Done_raw (w : Value) (s : G_algebra_MakerR) (B1 B2 : Blk) : FunH gl Tryd.prog 55 [mp w] [.ob w s, B1, B2] (fun r Hs => r = .t2 (.v (if s.e ≠ 0 then default else s.a)) (.v s.e) ∧ Hs = [.ob w s, B1, B2]) := by
  refine FunH.introS Tryd.func55 rfl (by kernel_rfl) 18 rfl rfl _ rfl _ rfl fun C hC hG => ?_
  refine .seq ?_
  refine .region rfl ?_
  refine .h (.alloc tyR32 fun b2 => .p (.assign (.i rfl) ?_))
  refine .nil ?_
  refine .seq ?_
  refine .seq ?_
  refine .region rfl ?_
  refine .p (.move (.t rfl) (.p (.nilCheckL (.t rfl) (.p (.fldW G_algebra_MakerR.l1 fd105_1 rfl (.t rfl) (.p (.ldF (fun x => x.e) ty39 (.t rfl) (.s .z) (fun _ => rfl) (.p (.neqI (.t rfl) (.i rfl) ?_)))))))))
  refine .nil ?_
  refine .condP (.t rfl) (fun hc8 => ?_) (fun hc8 => ?_)
  · refine .seq ?_
    refine .drawCF [true, false, false, false] (by kernel_rfl) 7 [[], [], [(10, 1)], [(11, 2)], [(12, 3)], [(9, 0)], [(13, 4)]] [5] rfl (by kernel_rfl) rfl (by kernel_rfl) (by decide) ?_
    refine ⟨_, fun H => OpP.bS0 (α := G_api_AlgebraR) rfl tyR32 fo32 rfl, ?_⟩
    refine ⟨_, fun H => OpP.move (.t rfl) rfl, ?_⟩
    refine ⟨_, fun H => OpP.nilCheckL (.t rfl) rfl, ?_⟩
    refine ⟨_, fun H => OpP.fldW G_algebra_MakerR.l1 fd105_1 rfl (.t rfl) rfl, ?_⟩
    refine ⟨_, fun H => OpP.ldF (fun x => x.e) ty39 (.t rfl) (Hole.app (.s .z)) (fun _ => rfl) rfl, ?_⟩
    refine .inl ?_
    refine ⟨_, fun H => OpP.assign (.t rfl) rfl, ?_⟩
    refine ⟨⟨([], fun k => List.getD [_, (true, .none_), (true, .none_), (true, .none_)] k (true, .none_)), rfl⟩, ?_⟩
    refine OpH.stW tyR32 (.t rfl) (.t rfl) .z ?_
    refine ⟨⟨([], fun k => List.getD [_, (true, .none_), (true, .none_), (true, .none_)] k (true, .none_)), rfl⟩, ?_⟩
    show wpB _ _ _ _ _ _ ((3, _) :: (13, _) :: (12, _) :: (11, _) :: (10, _) :: (9, _) :: _) _
    refine .nil ?_
    refine .ret ?_
    refine ⟨_, .r2 rfl (.cell tyR32 rfl .z) (.tmp rfl), ?_⟩
    refine ⟨_, .cons (.s .z) (.cons (.s (.s .z)) (.cons (.s (.s (.s .z))) (.nil))), ?_⟩
    rw [if_pos hc8]; exact ⟨rfl, rfl⟩
  · refine .skip ?_
    refine .seq ?_
    refine .region rfl ?_
    refine .p (.move (.t rfl) (.p (.nilCheckL (.t rfl) (.p (.fldW G_algebra_MakerR.l0 fd105_0 rfl (.t rfl) (.p (.ldF (fun x => x.a) tyR32 (.t rfl) (.s .z) (fun _ => rfl) (.n (.stW tyR32 (.t rfl) (.t rfl) .z (.p (.assign (.i rfl) ?_)))))))))))
    refine .nil ?_
    refine .ret ?_
    refine ⟨_, .r2 rfl (.cell tyR32 rfl .z) (.tmp rfl), ?_⟩
    refine ⟨_, .cons (.s .z) (.cons (.s (.s .z)) (.cons (.s (.s (.s .z))) (.nil))), ?_⟩
    rw [if_neg hc8, show s.e = 0 by omega]; exact ⟨rfl, rfl⟩
theorem mkKey_macs (a : Alg) (e : Int) : (mkKey a e).2.1.Macs = a.Macs ∧ (mkKey a e).2.1.Boxes = a.Boxes := by
  unfold mkKey algKey; split
  · exact ⟨rfl, rfl⟩
  · split
    · exact ⟨rfl, rfl⟩
    · exact ⟨rfl, rfl⟩
theorem mkMac_boxes (a : Alg) (e : Int) (k : Tag) (m : List UInt8) : (mkMac a e k m).2.1.Boxes = a.Boxes := by
  unfold mkMac algMac; split
  · rfl
  · split
    · rfl
    · split
      · rfl
      · split <;> rfl
theorem Key_mk (w : Value) (x : MkU) (h0 : 0 ≤ x.a.Fresh) : FunH gl Tryd.prog 60 [mp w] [.usr w x] (fun r Hs => ∃ x' : MkU, Hs = [.usr w x'] ∧ r = .v (mkKey x.a x.e).1 ∧ x'.a = (mkKey x.a x.e).2.1 ∧ x'.e = (mkKey x.a x.e).2.2) :=
  FunH.mk (post := fun r x' => r = .v (mkKey x.a x.e).1 ∧ x'.a = (mkKey x.a x.e).2.1 ∧ x'.e = (mkKey x.a x.e).2.2)
    ((Key_raw w x.a x.e x.um x.ub (gsM x.um x.a) (gsB x.ub x.a) h0).mono fun r Hs ⟨h1, h2⟩ => ⟨⟨_, _, x.um, x.ub⟩, by rw [h2]; unfold MkU.bs gsM gsB; rw [(mkKey_macs x.a x.e).1, (mkKey_macs x.a x.e).2], h1, rfl, rfl⟩)
theorem Mac_mk (w : Value) (x : MkU) (k : Tag) (m : List UInt8) (hl : x.a.Macs.length ≤ 1000000) : FunH gl Tryd.prog 54 [mp w, .v k, .v m] [.usr w x] (fun r Hs => ∃ x' : MkU, Hs = [.usr w x'] ∧ r = .v (mkMac x.a x.e k m).1 ∧ x'.a = (mkMac x.a x.e k m).2.1 ∧ x'.e = (mkMac x.a x.e k m).2.2) :=
  FunH.mk (post := fun r x' => r = .v (mkMac x.a x.e k m).1 ∧ x'.a = (mkMac x.a x.e k m).2.1 ∧ x'.e = (mkMac x.a x.e k m).2.2)
    ((Mac_raw w x.a x.e x.um x.ub (gsB x.ub x.a) k m hl).mono fun r Hs ⟨um', h1, h2⟩ => ⟨⟨_, _, um', x.ub⟩, by rw [h2]; unfold MkU.bs gsB; rw [mkMac_boxes], h1, rfl, rfl⟩)
theorem Done_mk (w : Value) (x : MkU) : FunH gl Tryd.prog 55 [mp w] [.usr w x] (fun r Hs => ∃ x' : MkU, Hs = [.usr w x'] ∧ r = .t2 (.v (if x.e ≠ 0 then default else rawAlg x.a x.um x.ub)) (.v x.e) ∧ x' = x) :=
  FunH.mk (post := fun r x' => r = .t2 (.v (if x.e ≠ 0 then default else rawAlg x.a x.um x.ub)) (.v x.e) ∧ x' = x)
    ((Done_raw w (rawMk x.a x.e x.um x.ub) (gsM x.um x.a) (gsB x.ub x.a)).mono fun r Hs ⟨h1, h2⟩ => ⟨x, h2, h1, rfl⟩)
/-- What was made stays as it is. -/
theorem mkDone {P : Program} {C : Ctx} {N : Nat} {σ : AEnv} {H : AHeap} {Q : Exit → AEnv → AHeap → Prop} {c : Code} (hC : Ctx.Ok C) (t : Nat) {w : Value} {x : MkU} {F : Bool × Blk → AHeap} (ht : lookA σ t = some (.v (if x.e ≠ 0 then default else rawAlg x.a x.um x.ub))) (hH : Hole H (true, .usr w x) F)
    (k : wpA P C N c Q ((t, .v (if x.e ≠ 0 then default else x.a)) :: σ) (F (true, .fz w .any))) : wpA P C N c Q σ H := fun ρ I L hs => by
  obtain ⟨i, X, h1, h2, h3⟩ := hH.get hs.heap
  refine .freeze i h1 (frz_ok hC h2) fun J hle hp => k ρ J _ ⟨fun s b hb => ?_, h3 J _ [] hle ⟨⟨rfl, trivial⟩, by simp⟩, hs.im0.trans hle⟩
  obtain ⟨L0, rfl, X0, R0, rfl, g0, X1, R1, rfl, g1, X2, R2, rfl, g2, g3⟩ := h2.1
  have f1 := gs_frz g1 hle (fun p hq => hp p (by simp [hq]))
  have f2 := gs_frz g2 hle (fun p hq => hp p (by simp [hq]))
  rw [lookA_cons] at hb
  by_cases e : t = s
  · subst e; simp only [if_true] at hb; cases hb
    obtain ⟨u, h4, h5⟩ := hs.env t _ ht
    refine ⟨u, h4, ?_⟩
    by_cases he : x.e ≠ 0
    · rw [if_pos he] at h5 ⊢
      exact rawAlg_to default _ _ J u (h5.mono hle) ⟨_, ⟨_, rfl, [], Sl.nil J _, rfl⟩, rfl⟩ ⟨_, ⟨_, rfl, [], Sl.nil J _, rfl⟩, rfl⟩
    · rw [if_neg he] at h5 ⊢
      exact rawAlg_to x.a _ _ J u (h5.mono hle) f1 f2
  · rw [if_neg e] at hb
    obtain ⟨u, h4, h5⟩ := hs.env s b hb
    exact ⟨u, h4, h5.mono hle⟩
theorem mkDoneB {P : Program} {C : Ctx} {N : Nat} {σ : AEnv} {H : AHeap} {ops : Array Oper} {Q : Exit → AEnv → AHeap → Prop} {os : List Oper} (hC : Ctx.Ok C) (t : Nat) {w : Value} {x : MkU} {F : Bool × Blk → AHeap} (ht : lookA σ t = some (.v (if x.e ≠ 0 then default else rawAlg x.a x.um x.ub))) (hH : Hole H (true, .usr w x) F)
    (k : wpB P C N ops Q os ((t, .v (if x.e ≠ 0 then default else x.a)) :: σ) (F (true, .fz w .any))) : wpB P C N ops Q os σ H := fun ρ I L hs => by
  obtain ⟨i, X, h1, h2, h3⟩ := hH.get hs.heap
  refine .freeze i h1 (frz_ok hC h2) fun J hle hp => k ρ J _ ⟨fun s b hb => ?_, h3 J _ [] hle ⟨⟨rfl, trivial⟩, by simp⟩, hs.im0.trans hle⟩
  obtain ⟨L0, rfl, X0, R0, rfl, g0, X1, R1, rfl, g1, X2, R2, rfl, g2, g3⟩ := h2.1
  have f1 := gs_frz g1 hle (fun p hq => hp p (by simp [hq]))
  have f2 := gs_frz g2 hle (fun p hq => hp p (by simp [hq]))
  rw [lookA_cons] at hb
  by_cases e : t = s
  · subst e; simp only [if_true] at hb; cases hb
    obtain ⟨u, h4, h5⟩ := hs.env t _ ht
    refine ⟨u, h4, ?_⟩
    by_cases he : x.e ≠ 0
    · rw [if_pos he] at h5 ⊢
      exact rawAlg_to default _ _ J u (h5.mono hle) ⟨_, ⟨_, rfl, [], Sl.nil J _, rfl⟩, rfl⟩ ⟨_, ⟨_, rfl, [], Sl.nil J _, rfl⟩, rfl⟩
    · rw [if_neg he] at h5 ⊢
      exact rawAlg_to x.a _ _ J u (h5.mono hle) f1 f2
  · rw [if_neg e] at hb
    obtain ⟨u, h4, h5⟩ := hs.env s b hb
    exact ⟨u, h4, h5.mono hle⟩
end Go.Proofs.YtiekhjbhlekaeaaDoor
