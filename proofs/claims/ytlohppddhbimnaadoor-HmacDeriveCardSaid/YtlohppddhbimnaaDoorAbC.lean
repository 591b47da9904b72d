import Derived.Test.YtlohppddhbimnaaDoorAbB
/- Operations over typed values: frames for the rules; calls; regions that draw their order; freezing; results. -/
set_option linter.unusedVariables false
namespace Go.Ab
open Go.Fl Go.RowKit
open Rep (rep)

theorem OpX.monoLe {P : Program} {N : Nat} {o : Oper} {ρ : Env} {I : Im} {L : Lh} {K K' : Value → Im → Lh → Prop} (h : OpX P N o ρ I L K) (hk : ∀ v J X, Le I J → K v J X → K' v J X) : OpX P N o ρ I L K' :=
  fun a w ha hm => (h a w ha hm).mono fun v w' ⟨J, X, a1, a2, a3, a4, a5, a6⟩ => ⟨J, X, a1, a2, a3, a4, a5, hk v J X a2 a6⟩
theorem OpS.mono' {P : Program} {C : Ctx} {N : Nat} {o : Oper} {ρ : Env} {I : Im} {L : Lh} {K K' : Value → Im → Lh → Prop} (h : OpS P C N o ρ I L K) (hk : ∀ v J X, K v J X → K' v J X) : OpS P C N o ρ I L K' :=
  fun a w ha hm => (h a w ha hm).mono fun v w' ⟨J, X, a1, a2⟩ => ⟨J, X, a1, hk v J X a2⟩

/-- An operation that turns no own memory. -/
def OpP (P : Program) (N : Nat) (C : Ctx) (o : Oper) (σ : AEnv) (H : AHeap) (K : AV → Prop) : Prop :=
  ∀ ρ I L, RSt C I L σ H ρ → OpX P N o ρ I L (fun v J X => X = [] ∧ ∃ r, RepV J r v ∧ K r)
/-- Any operation. -/
def OpH (P : Program) (C : Ctx) (N : Nat) (o : Oper) (σ : AEnv) (H : AHeap) (K : AV → AHeap → Prop) : Prop :=
  ∀ ρ I L, RSt C I L σ H ρ → OpS P C N o ρ I L (fun v J L' => Le I J ∧ ∃ r H', RepV J r v ∧ repH C.w0.heap.size J H' L' ∧ K r H')
theorem OpP.ofV {P : Program} {N : Nat} {C : Ctx} {o : Oper} {σ : AEnv} {H : AHeap} {K : AV → Prop} (r : AV) (h : ∀ ρ I L, RSt C I L σ H ρ → OpV P N o ρ I L (fun v => RepV I r v)) (k : K r) : OpP P N C o σ H K :=
  fun ρ I L hs => .ofV fun a w ha hm => by
    obtain ⟨v, hv, hr⟩ := h ρ I L hs a w ha hm
    exact ⟨v, ⟨rfl, r, hv, k⟩, hr⟩
section opers
variable {P : Program} {C : Ctx} {N : Nat} {ops : Array Oper} {Q : Exit → AEnv → AHeap → Prop} {rest : List Oper} {σ : AEnv} {H : AHeap}
theorem wpB.nil (h : Q .normal σ H) : wpB P C N ops Q [] σ H := fun ρ I L hs => .nil ⟨σ, H, hs, h⟩
theorem wpB.p {d : Nat} {op : Op} {ty : TypeId} {ps : String} {af : Array Edge}
    (h : OpP P N C ⟨some d, op, ty, ps, af, none⟩ σ H (fun r => wpB P C N ops Q rest ((d, r) :: σ) H)) :
    wpB P C N ops Q (⟨some d, op, ty, ps, af, none⟩ :: rest) σ H := fun ρ I L hs =>
  .x (OpX.monoLe (h ρ I L hs) fun v J X hle ⟨hX, r, hr, hk⟩ => by subst hX; exact hk _ _ _ (hs.put hle hr (hs.heap.mono hle)))
theorem wpB.h {d : Nat} {op : Op} {ty : TypeId} {ps : String} {af : Array Edge}
    (h : OpH P C N ⟨some d, op, ty, ps, af, none⟩ σ H (fun r H' => wpB P C N ops Q rest ((d, r) :: σ) H')) :
    wpB P C N ops Q (⟨some d, op, ty, ps, af, none⟩ :: rest) σ H := fun ρ I L hs =>
  .s (OpS.mono' (h ρ I L hs) fun v J L' ⟨hle, r, H', hr, hH, hk⟩ => hk _ _ _ (hs.put hle hr hH))
theorem wpB.n {op : Op} {ty : TypeId} {ps : String} {af : Array Edge}
    (h : OpH P C N ⟨none, op, ty, ps, af, none⟩ σ H (fun _ H' => wpB P C N ops Q rest σ H')) :
    wpB P C N ops Q (⟨none, op, ty, ps, af, none⟩ :: rest) σ H := fun ρ I L hs =>
  .n (OpS.mono' (h ρ I L hs) fun v J L' ⟨hle, r, H', hr, hH, hk⟩ => hk _ _ _ ⟨(hs.mono hle).env, hH, hs.im0.trans hle⟩)
/-- A guarded operation: two cases. -/
theorem wpB.gs {d : Nat} {op : Op} {ty : TypeId} {ps : String} {af : Array Edge} {j : Nat} {want : Bool} (dj : Nat) (hj : (ops[j]?).bind (·.dst) = some dj) {b : Bool} (hb : EvA C σ H (.tmp dj) (.v b))
    (h : b = want → OpP P N C ⟨some d, op, ty, ps, af, none⟩ σ H (fun r => wpB P C N ops Q rest ((d, r) :: σ) H)) (hn : b = (!want) → wpB P C N ops Q rest ((d, .any) :: σ) H) :
    wpB P C N ops Q (⟨some d, op, ty, ps, af, some (j, want)⟩ :: rest) σ H := fun ρ I L hs => by
  have hbv := hb.bool hs
  by_cases e : b = want
  · refine .gt dj hj (by rw [← e]; exact hbv) (OpS.ofX (OpX.monoLe (h e ρ I L hs) fun v J X hle ⟨hX, r, hr, hk⟩ => ?_))
    subst hX
    exact hk _ _ _ (hs.put hle hr (hs.heap.mono hle))
  · have e' : b = !want := by cases b <;> cases want <;> simp_all
    exact .gf dj hj (by rw [← e']; exact hbv) (hn e' _ _ _ (hs.put (Le.refl I) trivial hs.heap))
/-- A guarded operation whose result is known: one case. -/
theorem wpB.go {d : Nat} {op : Op} {ty : TypeId} {ps : String} {af : Array Edge} {j : Nat} {want : Bool} (dj : Nat) (hj : (ops[j]?).bind (·.dst) = some dj) {b : Bool} (hb : EvA C σ H (.tmp dj) (.v b)) {r : AV}
    (h : b = want → OpP P N C ⟨some d, op, ty, ps, af, none⟩ σ H (fun r' => r' = r)) (k : wpB P C N ops Q rest ((d, .opt (b == want) r) :: σ) H) :
    wpB P C N ops Q (⟨some d, op, ty, ps, af, some (j, want)⟩ :: rest) σ H := fun ρ I L hs => by
  have hbv := hb.bool hs
  by_cases e : b = want
  · refine .gt dj hj (by rw [← e]; exact hbv) (OpS.ofX (OpX.monoLe (h e ρ I L hs) fun v J X hle ⟨hX, r', hr, hk⟩ => ?_))
    subst hX; subst hk
    exact k _ _ _ (hs.put hle (r := .opt (b == want) r') (fun _ => hr) (hs.heap.mono hle))
  · have e' : b = !want := by cases b <;> cases want <;> simp_all
    exact .gf dj hj (by rw [← e']; exact hbv) (k _ _ _ (hs.put (Le.refl I) (r := .opt (b == want) r) (fun hc => absurd (by simpa using hc) e) hs.heap))
theorem wpA.region {id : Nat} {l : List Oper} (hd : dstOk N l = true) (h : wpB P C N l.toArray Q l σ H) : wpA P C N (.region id l.toArray false) Q σ H := fun ρ I L hs => .region hd (h ρ I L hs)

/-! ### One chunk among the others -/
inductive Hole : AHeap → Bool × Blk → (Bool × Blk → AHeap) → Prop
  | z {B : Bool × Blk} {H : AHeap} : Hole (B :: H) B (fun X => X :: H)
  | s {A B : Bool × Blk} {H : AHeap} {F : Bool × Blk → AHeap} (h : Hole H B F) : Hole (A :: H) B (fun X => A :: F X)
theorem Hole.get {n0 : Nat} {I : Im} {H : AHeap} {B : Bool × Blk} {F : Bool × Blk → AHeap} (h : Hole H B F) : ∀ {L : Lh}, repH n0 I H L →
    ∃ i X, L[i]? = some X ∧ repB n0 I B X ∧ ∀ J B' X', Le I J → repB n0 J B' X' → repH n0 J (F B') (L.set i X') := by
  induction h with
  | z =>
    rintro _ ⟨X, R, rfl, h1, h2⟩
    exact ⟨0, X, rfl, h1, fun J B' X' hle hb => ⟨X', R, rfl, hb, h2.mono hle⟩⟩
  | s h ih =>
    rintro _ ⟨X, R, rfl, h1, h2⟩
    obtain ⟨i, Y, h3, h4, h5⟩ := ih h2
    exact ⟨i + 1, Y, by simpa using h3, h4, fun J B' X' hle hb => ⟨X, R.set i X', by simp, h1.mono hle, h5 J B' X' hle hb⟩⟩
theorem freeze_own {I J : Im} {E : TypeId} {α : Type} {r : Rep α} {w : Value} {l : List α} {X : List (Nat × Obj)} (h : (Blk.own E w l).brep I X) (hle : Le I J) (hp : ∀ p ∈ X, J p.1 = some p.2) : RepV J (.v l) w := by
  obtain ⟨xs, h1, h2⟩ := h
  obtain ⟨a, c, rfl⟩ := h1.shape
  exact ⟨_, ⟨_, rfl, xs, h1.sl hp, h2.mono hle⟩, rfl⟩
theorem freeze_ob {I J : Im} {α : Type} {r : Rep α} {w : Value} {x : α} {X : List (Nat × Obj)} (h : (Blk.ob w x).brep I X) (hle : Le I J) (hp : ∀ p ∈ X, J p.1 = some p.2) : RepV J (.p x) w := by
  obtain ⟨b, T, cs, rfl, rfl, h3⟩ := h
  exact ⟨b, 0, cs, rfl, Rep.mono hle h3, Cells.of_row (hp (b, row cs T) (List.mem_singleton.2 rfl))⟩
/-- The blocks that a call was lent lie in old memory. -/
def Ctx.Ok (C : Ctx) : Prop := ∀ k ∈ C.M, k < C.w0.heap.size
theorem frz_ok (hC : Ctx.Ok C) {B : Blk} {I : Im} {X : List (Nat × Obj)} (h : repB C.w0.heap.size I (true, B) X) : ∀ p ∈ X, p.1 ∈ C.M → False := fun p hp hm => by
  have := h.2 rfl p hp
  have := hC _ hm
  omega
theorem wpB.frzOwn (hC : Ctx.Ok C) {E : TypeId} {α : Type} {r : Rep α} {w : Value} {l : List α} {os : List Oper} {F : Bool × Blk → AHeap} (h : Hole H (true, .own E w l) F) (k : wpB P C N ops Q os σ (F (true, .fz w (.v l)))) : wpB P C N ops Q os σ H := fun ρ I L hs => by
  obtain ⟨i, X, h1, h2, h3⟩ := h.get hs.heap
  refine .freeze i h1 (frz_ok hC h2) fun J hle hp => k ρ J _ ⟨(hs.mono hle).env, h3 J _ [] hle ⟨⟨rfl, freeze_own h2.1 hle hp⟩, by simp⟩, hs.im0.trans hle⟩
theorem freeze_ownC {I J : Im} {E : TypeId} {α : Type} {r : Rep α} {b n : Nat} {l : List α} {X : List (Nat × Obj)} (h : (Blk.own E (slc b 0 n n) l).brep I X) (hn : l.length = n) (hle : Le I J) (hp : ∀ p ∈ X, J p.1 = some p.2) : RepV J (.vc l) (slc b 0 n n) := by
  obtain ⟨xs, h1, h2⟩ := h
  subst hn
  exact ⟨⟨_, rfl⟩, xs, h1.sl hp, h2.mono hle⟩
theorem wpB.frzC (hC : Ctx.Ok C) {E : TypeId} {α : Type} {r : Rep α} {b n : Nat} {l : List α} {os : List Oper} {F : Bool × Blk → AHeap} (h : Hole H (true, .own E (slc b 0 n n) l) F) (hn : l.length = n) (k : wpB P C N ops Q os σ (F (true, .fz (slc b 0 n n) (.vc l)))) : wpB P C N ops Q os σ H := fun ρ I L hs => by
  obtain ⟨i, X, h1, h2, h3⟩ := h.get hs.heap
  refine .freeze i h1 (frz_ok hC h2) fun J hle hp => k ρ J _ ⟨(hs.mono hle).env, h3 J _ [] hle ⟨⟨rfl, freeze_ownC h2.1 hn hle hp⟩, by simp⟩, hs.im0.trans hle⟩
theorem wpA.frzC (hC : Ctx.Ok C) {E : TypeId} {α : Type} {r : Rep α} {b n : Nat} {l : List α} {c : Code} {F : Bool × Blk → AHeap} (h : Hole H (true, .own E (slc b 0 n n) l) F) (hn : l.length = n) (k : wpA P C N c Q σ (F (true, .fz (slc b 0 n n) (.vc l)))) : wpA P C N c Q σ H := fun ρ I L hs => by
  obtain ⟨i, X, h1, h2, h3⟩ := h.get hs.heap
  refine .freeze i h1 (frz_ok hC h2) fun J hle hp => k ρ J _ ⟨(hs.mono hle).env, h3 J _ [] hle ⟨⟨rfl, freeze_ownC h2.1 hn hle hp⟩, by simp⟩, hs.im0.trans hle⟩
theorem wpB.frzOb (hC : Ctx.Ok C) {α : Type} {r : Rep α} {w : Value} {x : α} {os : List Oper} {F : Bool × Blk → AHeap} (h : Hole H (true, .ob w x) F) (k : wpB P C N ops Q os σ (F (true, .fz w (.p x)))) : wpB P C N ops Q os σ H := fun ρ I L hs => by
  obtain ⟨i, X, h1, h2, h3⟩ := h.get hs.heap
  refine .freeze i h1 (frz_ok hC h2) fun J hle hp => k ρ J _ ⟨(hs.mono hle).env, h3 J _ [] hle ⟨⟨rfl, freeze_ob h2.1 hle hp⟩, by simp⟩, hs.im0.trans hle⟩
theorem wpA.frzOwn (hC : Ctx.Ok C) {E : TypeId} {α : Type} {r : Rep α} {w : Value} {l : List α} {c : Code} {F : Bool × Blk → AHeap} (h : Hole H (true, .own E w l) F) (k : wpA P C N c Q σ (F (true, .fz w (.v l)))) : wpA P C N c Q σ H := fun ρ I L hs => by
  obtain ⟨i, X, h1, h2, h3⟩ := h.get hs.heap
  refine .freeze i h1 (frz_ok hC h2) fun J hle hp => k ρ J _ ⟨(hs.mono hle).env, h3 J _ [] hle ⟨⟨rfl, freeze_own h2.1 hle hp⟩, by simp⟩, hs.im0.trans hle⟩
theorem wpA.frzOb (hC : Ctx.Ok C) {α : Type} {r : Rep α} {w : Value} {x : α} {c : Code} {F : Bool × Blk → AHeap} (h : Hole H (true, .ob w x) F) (k : wpA P C N c Q σ (F (true, .fz w (.p x)))) : wpA P C N c Q σ H := fun ρ I L hs => by
  obtain ⟨i, X, h1, h2, h3⟩ := h.get hs.heap
  refine .freeze i h1 (frz_ok hC h2) fun J hle hp => k ρ J _ ⟨(hs.mono hle).env, h3 J _ [] hle ⟨⟨rfl, freeze_ob h2.1 hle hp⟩, by simp⟩, hs.im0.trans hle⟩
/-- A slot that holds the name of frozen memory holds what it says. -/
theorem RSt.as {C : Ctx} {I : Im} {L : Lh} {ρ : Env} (t : Nat) {w : Value} {a : AV} {g : Bool} {F : Bool × Blk → AHeap} (ht : lookA σ t = some (.raw w)) (h : Hole H (g, .fz w a) F) (hs : RSt C I L σ H ρ) : RSt C I L ((t, a) :: σ) H ρ :=
  ⟨fun s b hb => by
    rw [lookA_cons] at hb
    by_cases e : t = s
    · subst e; simp at hb; subst hb
      obtain ⟨u, h1, rfl⟩ := hs.env t _ ht
      obtain ⟨i, X, h2, h3, _⟩ := h.get hs.heap
      exact ⟨_, h1, h3.1.2⟩
    · rw [if_neg e] at hb; exact hs.env s b hb, hs.heap, hs.im0⟩
theorem wpB.as (t : Nat) {w : Value} {a : AV} {g : Bool} {F : Bool × Blk → AHeap} {os : List Oper} (ht : lookA σ t = some (.raw w)) (h : Hole H (g, .fz w a) F) (k : wpB P C N ops Q os ((t, a) :: σ) H) : wpB P C N ops Q os σ H :=
  fun ρ I L hs => k ρ I L (hs.as t ht h)
theorem wpA.as (t : Nat) {w : Value} {a : AV} {g : Bool} {F : Bool × Blk → AHeap} {c : Code} (ht : lookA σ t = some (.raw w)) (h : Hole H (g, .fz w a) F) (k : wpA P C N c Q ((t, a) :: σ) H) : wpA P C N c Q σ H :=
  fun ρ I L hs => k ρ I L (hs.as t ht h)
theorem RSt.asP {C : Ctx} {I : Im} {L : Lh} {ρ : Env} (t : Nat) {α : Type} {r : Rep α} {b : Nat} {a : AV} {g : Bool} {F : Bool × Blk → AHeap} (ht : lookA σ t = some (.ln (ptr b 0) (Lens.id (α := α)))) (h : Hole H (g, .fz (ptr b 0) a) F) (hs : RSt C I L σ H ρ) : RSt C I L ((t, a) :: σ) H ρ :=
  ⟨fun s c hb => by
    rw [lookA_cons] at hb
    by_cases e : t = s
    · subst e; simp at hb; subst hb
      obtain ⟨u, h1, b', hb', rfl⟩ := hs.env t _ ht
      cases hb'
      obtain ⟨i, X, h2, h3, _⟩ := h.get hs.heap
      exact ⟨_, h1, h3.1.2⟩
    · rw [if_neg e] at hb; exact hs.env s c hb, hs.heap, hs.im0⟩
theorem wpB.asP (t : Nat) {α : Type} {r : Rep α} {b : Nat} {a : AV} {g : Bool} {F : Bool × Blk → AHeap} {os : List Oper} (ht : lookA σ t = some (.ln (ptr b 0) (Lens.id (α := α)))) (h : Hole H (g, .fz (ptr b 0) a) F) (k : wpB P C N ops Q os ((t, a) :: σ) H) : wpB P C N ops Q os σ H :=
  fun ρ I L hs => k ρ I L (hs.asP t ht h)
theorem wpA.asP (t : Nat) {α : Type} {r : Rep α} {b : Nat} {a : AV} {g : Bool} {F : Bool × Blk → AHeap} {c : Code} (ht : lookA σ t = some (.ln (ptr b 0) (Lens.id (α := α)))) (h : Hole H (g, .fz (ptr b 0) a) F) (k : wpA P C N c Q ((t, a) :: σ) H) : wpA P C N c Q σ H :=
  fun ρ I L hs => k ρ I L (hs.asP t ht h)
theorem RSt.asS {C : Ctx} {I : Im} {L : Lh} {ρ : Env} (t : Nat) {α β : Type} {n : Nat} {r : Rep α} {s : Rep β} {b : Nat} {l : Lens α (Arr n β)} {x : α} {g : Bool} {F : Bool × Blk → AHeap} (ht : lookA σ t = some (.sv (ptr b 0) l)) (h : Hole H (g, .fz (ptr b 0) (.p x)) F) (hn : n ≤ 9223372036854775807) (hs : RSt C I L σ H ρ) :
    RSt C I L ((t, .v (l.get x).l) :: σ) H ρ :=
  ⟨fun q c hb => by
    rw [lookA_cons] at hb
    by_cases e : t = q
    · subst e; simp at hb; subst hb
      obtain ⟨u, h1, b', hb', rfl⟩ := hs.env t _ ht
      cases hb'
      obtain ⟨i, X, h2, h3, _⟩ := h.get hs.heap
      obtain ⟨b2, o2, cs, e2, h4, h5⟩ := h3.1.2
      cases e2
      have hg := l.gets h4
      refine ⟨_, h1, _, ⟨_, rfl, segGet cs l.off (n * Rep.size β), ?_, hg⟩, rfl⟩
      have hll := Rep.len hg
      have := Sl.of_cells (s := Rep.size β) (n := n) (c := n) (b := b) (o := 0 + l.off) (xs := segGet cs l.off (n * Rep.size β)) (h5.sub l.off (fun i v hv => by
        simp only [segGet, List.getElem?_take, List.getElem?_drop] at hv
        split at hv
        · exact hv
        · cases hv)) hll (Nat.le_refl _) (by unfold maxLen; omega)
      rw [(l.get x).h]
      simpa using this
    · rw [if_neg e] at hb; exact hs.env q c hb, hs.heap, hs.im0⟩
theorem wpB.asS (t : Nat) {α β : Type} {n : Nat} {r : Rep α} {s : Rep β} {b : Nat} {l : Lens α (Arr n β)} {x : α} {g : Bool} {F : Bool × Blk → AHeap} {os : List Oper} (ht : lookA σ t = some (.sv (ptr b 0) l)) (h : Hole H (g, .fz (ptr b 0) (.p x)) F) (hn : n ≤ 9223372036854775807)
    (k : wpB P C N ops Q os ((t, .v (l.get x).l) :: σ) H) : wpB P C N ops Q os σ H := fun ρ I L hs => k ρ I L (hs.asS t ht h hn)
theorem wpA.asS (t : Nat) {α β : Type} {n : Nat} {r : Rep α} {s : Rep β} {b : Nat} {l : Lens α (Arr n β)} {x : α} {g : Bool} {F : Bool × Blk → AHeap} {c : Code} (ht : lookA σ t = some (.sv (ptr b 0) l)) (h : Hole H (g, .fz (ptr b 0) (.p x)) F) (hn : n ≤ 9223372036854775807)
    (k : wpA P C N c Q ((t, .v (l.get x).l) :: σ) H) : wpA P C N c Q σ H := fun ρ I L hs => k ρ I L (hs.asS t ht h hn)
/-- An integer in a slot is in its range. -/
theorem wpA.range (t : Nat) {n : Int} {c : Code} (ht : lookA σ t = some (.v n)) (k : -9223372036854775808 ≤ n → n ≤ 9223372036854775807 → wpA P C N c Q σ H) : wpA P C N c Q σ H :=
  fun ρ I L hs => by obtain ⟨_, h1, h2⟩ := EvA.int (.t ht) hs; exact k h1 h2 ρ I L hs
theorem wpA.lenLe (t : Nat) {α : Type} {r : Rep α} {l : List α} {c : Code} (ht : lookA σ t = some (.v l)) (k : l.length ≤ 9223372036854775807 → wpA P C N c Q σ H) : wpA P C N c Q σ H :=
  fun ρ I L hs => by
    obtain ⟨u, _, xs, ⟨a, c, _, _, h1, h2, _⟩, _⟩ := EvA.sl (.t ht) hs
    exact k (by unfold maxLen at h2; omega) ρ I L hs
theorem wpA.strLe (t : Nat) {s : Str} {c : Code} (ht : lookA σ t = some (.v s)) (k : s.l.length ≤ 9223372036854775807 → wpA P C N c Q σ H) : wpA P C N c Q σ H :=
  fun ρ I L hs => k (EvA.strLe (.t ht) hs) ρ I L hs
theorem wpB.lenLe (t : Nat) {α : Type} {r : Rep α} {l : List α} {os : List Oper} (ht : lookA σ t = some (.v l)) (k : l.length ≤ 9223372036854775807 → wpB P C N ops Q os σ H) : wpB P C N ops Q os σ H :=
  fun ρ I L hs => by
    obtain ⟨u, _, xs, ⟨a, c, _, _, h1, h2, _⟩, _⟩ := EvA.sl (.t ht) hs
    exact k (by unfold maxLen at h2; omega) ρ I L hs
theorem wpB.strLe (t : Nat) {s : Str} {os : List Oper} (ht : lookA σ t = some (.v s)) (k : s.l.length ≤ 9223372036854775807 → wpB P C N ops Q os σ H) : wpB P C N ops Q os σ H :=
  fun ρ I L hs => k (EvA.strLe (.t ht) hs) ρ I L hs
end opers

/-! ### Functions -/
/-- What is known of the package's variables. -/
structure Gl where
  p : Im → Prop
  mono : ∀ {I J}, Le I J → p I → p J
def Gl.no : Gl := ⟨fun _ => True, fun _ h => h⟩
def RepVs (I : Im) : List AV → List Value → Prop
  | [], vs => vs = []
  | a :: as, vs => ∃ v r, vs = v :: r ∧ RepV I a v ∧ RepVs I as r
theorem RepVs.mono {I J : Im} (hle : Le I J) : ∀ {as : List AV} {vs : List Value}, RepVs I as vs → RepVs J as vs
  | [], _, h => h
  | a :: as, _, h => by obtain ⟨v, r, h1, h2, h3⟩ := h; exact ⟨v, r, h1, h2.mono hle, h3.mono hle⟩
theorem RepVs.len {I : Im} : ∀ {as : List AV} {vs : List Value}, RepVs I as vs → vs.length = as.length
  | [], _, h => by simp [RepVs] at h; simp [h]
  | a :: as, _, h => by obtain ⟨v, r, rfl, _, h3⟩ := h; simp [h3.len]
def argA : List AV → Nat → AEnv
  | [], _ => []
  | a :: r, k => (k, a) :: argA r (k + 1)
theorem RepVs.env {I : Im} : ∀ {as : List AV} {vs : List Value} (k : Nat), RepVs I as vs → ∀ t a, lookA (argA as k) t = some a → ∃ u, Fl.look (argEnv vs k) t = some u ∧ RepV I a u
  | [], _, k, h, t, a, ht => by simp [argA, lookA] at ht
  | a :: as, _, k, h, t, b, ht => by
    obtain ⟨v, r, rfl, h2, h3⟩ := h
    rw [argA, lookA_cons] at ht
    rw [argEnv, Fl.look_cons]
    by_cases e : k = t
    · rw [if_pos e] at ht ⊢; cases ht; exact ⟨v, rfl, h2⟩
    · rw [if_neg e] at ht ⊢; exact h3.env (k + 1) t b ht
def FunA (G : Gl) (P : Program) (f : FuncId) (as : List AV) (post : AV → Prop) : Prop := ∀ I vs, G.p I → RepVs I as vs → Fun P f vs.toArray I (fun v J => ∃ r, RepV J r v ∧ post r)
def repK (I : Im) : List Blk → Lh → Prop
  | [], L => L = []
  | B :: H, L => ∃ X R, L = X :: R ∧ B.brep I X ∧ repK I H R
def FunH (G : Gl) (P : Program) (f : FuncId) (as : List AV) (Hs : List Blk) (post : AV → List Blk → Prop) : Prop :=
  ∀ I L vs, G.p I → RepVs I as vs → repK I Hs L → FunM P f vs.toArray I L (fun v J L' => ∃ r Hs', RepV J r v ∧ repK J Hs' L' ∧ post r Hs')
theorem repK.toH {n0 : Nat} {I : Im} : ∀ {Hs : List Blk} {L : Lh}, repK I Hs L → repH n0 I (Hs.map (fun B => (false, B))) L
  | [], _, h => h
  | B :: Hs, _, h => by obtain ⟨X, R, h1, h2, h3⟩ := h; exact ⟨X, R, h1, ⟨h2, fun e => by cases e⟩, h3.toH⟩
theorem repK.toT {n0 : Nat} {I : Im} : ∀ {Hs : List Blk} {L : Lh}, repK I Hs L → (∀ p ∈ L.flatten, n0 ≤ p.1) → repH n0 I (Hs.map (fun B => (true, B))) L
  | [], _, h, _ => h
  | B :: Hs, _, h, hp => by
    obtain ⟨X, R, rfl, h2, h3⟩ := h
    exact ⟨X, R, rfl, ⟨h2, fun _ p h => hp p (by simp [h])⟩, h3.toT (fun p h => hp p (by simp only [List.flatten_cons, List.mem_append]; exact .inr h))⟩
theorem repH.toK {n0 : Nat} {I : Im} : ∀ {H : AHeap} {L : Lh}, repH n0 I H L → repK I (H.map Prod.snd) L
  | [], _, h => h
  | B :: Hs, _, h => by obtain ⟨X, R, h1, h2, h3⟩ := h; exact ⟨X, R, h1, h2.1, h3.toK⟩
def FinA (P : Program) (fn : Func) (C : Ctx) (σ : AEnv) (H : AHeap) (r : AV) : Prop := ∀ ρ I L, RSt C I L σ H ρ → ∃ v, Fin P fn ρ I L v ∧ RepV I r v
def endA (P : Program) (fn : Func) (C : Ctx) (post : AV → AHeap → Prop) : Exit → AEnv → AHeap → Prop
  | .normal, σ, H | .ret, σ, H => ∃ r, FinA P fn C σ H r ∧ post r H
  | _, _, _ => False
theorem endA.q {P : Program} {fn : Func} {C : Ctx} {post : AV → AHeap → Prop} {e : Exit} {ρ : Env} {I : Im} {L : Lh} (h : qA C (endA P fn C post) e ρ I L) :
    endQ P fn (fun v J L' => ∃ r H, RepV J r v ∧ repH C.w0.heap.size J H L' ∧ post r H) e ρ I L := by
  obtain ⟨σ, H, h1, h2⟩ := h
  cases e with
  | normal | ret =>
    obtain ⟨r, h3, h4⟩ := h2
    obtain ⟨v, h5, h6⟩ := h3 ρ I L h1
    exact ⟨v, h5, r, H, h6, h1.heap, h4⟩
  | _ => exact h2.elim
theorem FunA.intro {G : Gl} {P : Program} {f : FuncId} {fn : Func} {c : Code} {as : List AV} {post : AV → Prop} (hf : P.funcs[f]? = some fn) (hb : fn.body = some c) (hn : (fn.name == "runtime.NumGoroutine") = false)
    (N : Nat) (hN : fn.ntmps = N) (hl : Nat.ble as.length N = true) (σ : AEnv) (hσ : argA as 0 = σ)
    (h : ∀ C : Ctx, Ctx.Ok C → G.p C.I0 → wpA P C N c (endA P fn C (fun r _ => post r)) σ []) : FunA G P f as post := fun I vs hG hvs =>
  ⟨⟨fn, hf, hn, by simp [hb]⟩, fun w hm => calls_body hf hb N hN (by rw [hvs.len]; exact hl) hm (M := []) (by simp)
    ((h ⟨w, [], I⟩ (fun k hk => by cases hk) hG (argEnv vs 0) I [] ⟨by rw [← hσ]; exact hvs.env 0, rfl, Le.refl I⟩).mono fun e ρ J L hq => endA.q hq)
    fun v J L' w' hs hp => by
      obtain ⟨r, H, h1, h2, h3⟩ := hp
      exact ⟨v, J, rfl, hs.chg, hs.im0, fun b h0 h1 => hs.new b h0 h1, hs.mem.drop, r, h1, h3⟩⟩
theorem FunH.intro {G : Gl} {P : Program} {f : FuncId} {fn : Func} {c : Code} {as : List AV} {Hs : List Blk} {post : AV → List Blk → Prop} (hf : P.funcs[f]? = some fn) (hb : fn.body = some c) (hn : (fn.name == "runtime.NumGoroutine") = false)
    (N : Nat) (hN : fn.ntmps = N) (hl : Nat.ble as.length N = true) (σ : AEnv) (hσ : argA as 0 = σ) (H0 : AHeap) (hH : Hs.map (fun B => (false, B)) = H0)
    (h : ∀ C : Ctx, Ctx.Ok C → G.p C.I0 → wpA P C N c (endA P fn C (fun r H => post r (H.map Prod.snd))) σ H0) : FunH G P f as Hs post := fun I L vs hG hvs hL =>
  ⟨⟨fn, hf, hn, by simp [hb]⟩, fun w hm => calls_body hf hb N hN (by rw [hvs.len]; exact hl) hm (M := L.flatten.map Prod.fst) (fun p hp => List.mem_map_of_mem hp)
    ((h ⟨w, L.flatten.map Prod.fst, I⟩ (fun k hk => by
        obtain ⟨p, hp, rfl⟩ := List.mem_map.1 hk
        exact lt_of_get (hm.loc p hp)) hG (argEnv vs 0) I L ⟨by rw [← hσ]; exact hvs.env 0, by rw [← hH]; exact hL.toH, Le.refl I⟩).mono fun e ρ J L hq => endA.q hq)
    fun v J L' w' hs hp => by
      obtain ⟨r, H, h1, h2, h3⟩ := hp
      exact ⟨v, J, L', rfl, hs.chg, hs.im0, fun b h0 h1 => hs.new b h0 h1, hs.mem, hs.own, r, _, h1, h2.toK, h3⟩⟩
theorem FunA.mono {G : Gl} {P : Program} {f : FuncId} {as : List AV} {post post' : AV → Prop} (h : FunA G P f as post) (hp : ∀ r, post r → post' r) : FunA G P f as post' := fun I vs hG hvs =>
  (h I vs hG hvs).mono fun v J hle ⟨r, h1, h2⟩ => ⟨r, h1, hp r h2⟩

theorem EvA.glob {C : Ctx} {G : Gl} {σ : AEnv} {H : AHeap} {g : Nat} {a : AV} (hG : G.p C.I0) (h : ∀ I, G.p I → RepV I a (ptr g 0)) : EvA C σ H (.global g) a := fun ρ I L hs => ⟨_, rfl, h I (G.mono hs.im0 hG)⟩
/-! ### Calls -/
def EvAs (C : Ctx) (σ : AEnv) (H : AHeap) : List Operand → List AV → Prop
  | [], as => as = []
  | x :: xs, as => ∃ a r, as = a :: r ∧ EvA C σ H x a ∧ EvAs C σ H xs r
theorem EvAs.nil {C : Ctx} {σ : AEnv} {H : AHeap} : EvAs C σ H [] [] := rfl
theorem EvAs.cons {C : Ctx} {σ : AEnv} {H : AHeap} {x : Operand} {a : AV} {xs : List Operand} {as : List AV} (h : EvA C σ H x a) (k : EvAs C σ H xs as) : EvAs C σ H (x :: xs) (a :: as) := ⟨a, as, rfl, h, k⟩
theorem EvAs.get {C : Ctx} {σ : AEnv} {H : AHeap} {ρ : Env} {I : Im} {L : Lh} (hs : RSt C I L σ H ρ) : ∀ {xs : List Operand} {as : List AV}, EvAs C σ H xs as → ∃ vs, evL ρ xs = some vs ∧ RepVs I as vs
  | [], _, h => by simp [EvAs] at h; subst h; exact ⟨[], rfl, rfl⟩
  | x :: xs, _, h => by
    obtain ⟨a, r, rfl, h1, h2⟩ := h
    obtain ⟨u, h3, h4⟩ := h1 ρ I L hs
    obtain ⟨vs, h5, h6⟩ := EvAs.get hs h2
    exact ⟨u :: vs, by simp [evL, h3, h5], u, vs, rfl, h4, h6⟩
/-- An operand's value while the call's own memory is lent. -/
def EvL (C : Ctx) (σ : AEnv) (H : AHeap) (x : Operand) (a : AV) : Prop := ∀ ρ I L, RSt C I L σ H ρ → ∃ u, ev ρ x = some u ∧ ∀ J, Le I J → (∀ p ∈ L.flatten, J p.1 = some p.2) → RepV J a u
theorem EvL.e {C : Ctx} {σ : AEnv} {H : AHeap} {x : Operand} {a : AV} (h : EvA C σ H x a) : EvL C σ H x a := fun ρ I L hs => by
  obtain ⟨u, h1, h2⟩ := h ρ I L hs
  exact ⟨u, h1, fun J hle _ => h2.mono hle⟩
theorem EvL.own {C : Ctx} {σ : AEnv} {H : AHeap} {t : Nat} {E : TypeId} {α : Type} {r : Rep α} {w : Value} {l : List α} {g : Bool} {F : Bool × Blk → AHeap} (ht : lookA σ t = some (.raw w)) (h : Hole H (g, .own E w l) F) : EvL C σ H (.tmp t) (.v l) := fun ρ I L hs => by
  obtain ⟨u, h1, rfl⟩ := hs.env t _ ht
  obtain ⟨i, X, h2, h3, _⟩ := h.get hs.heap
  exact ⟨_, h1, fun J hle hp => freeze_own h3.1 hle (fun p hpx => hp p (mem_chunk h2 hpx))⟩
theorem EvL.fz {C : Ctx} {σ : AEnv} {H : AHeap} {t : Nat} {w : Value} {a : AV} {g : Bool} {F : Bool × Blk → AHeap} (ht : lookA σ t = some (.raw w)) (h : Hole H (g, .fz w a) F) : EvL C σ H (.tmp t) a := fun ρ I L hs => by
  obtain ⟨u, h1, rfl⟩ := hs.env t _ ht
  obtain ⟨i, X, h2, h3, _⟩ := h.get hs.heap
  exact ⟨_, h1, fun J hle hp => h3.1.2.mono hle⟩
def EvLs (C : Ctx) (σ : AEnv) (H : AHeap) : List Operand → List AV → Prop
  | [], as => as = []
  | x :: xs, as => ∃ a r, as = a :: r ∧ EvL C σ H x a ∧ EvLs C σ H xs r
theorem EvLs.nil {C : Ctx} {σ : AEnv} {H : AHeap} : EvLs C σ H [] [] := rfl
theorem EvLs.cons {C : Ctx} {σ : AEnv} {H : AHeap} {x : Operand} {a : AV} {xs : List Operand} {as : List AV} (h : EvL C σ H x a) (k : EvLs C σ H xs as) : EvLs C σ H (x :: xs) (a :: as) := ⟨a, as, rfl, h, k⟩
theorem EvLs.get {C : Ctx} {σ : AEnv} {H : AHeap} {ρ : Env} {I : Im} {L : Lh} (hs : RSt C I L σ H ρ) : ∀ {xs : List Operand} {as : List AV}, EvLs C σ H xs as → ∃ vs, evL ρ xs = some vs ∧ ∀ J, Le I J → (∀ p ∈ L.flatten, J p.1 = some p.2) → RepVs J as vs
  | [], _, h => by simp [EvLs] at h; subst h; exact ⟨[], rfl, fun _ _ _ => rfl⟩
  | x :: xs, _, h => by
    obtain ⟨a, r, rfl, h1, h2⟩ := h
    obtain ⟨u, h3, h4⟩ := h1 ρ I L hs
    obtain ⟨vs, h5, h6⟩ := EvLs.get hs h2
    exact ⟨u :: vs, by simp [evL, h3, h5], fun J hle hp => ⟨u, vs, rfl, h4 J hle hp, h6 J hle hp⟩⟩
/-- A result that holds no memory. -/
def FlatV (r : AV) : Prop := ∀ I J u, RepV I r u → RepV J r u
class RepF (α : Type) [Rep α] : Prop where
  any : ∀ {I J : Im} {x : α} {cs}, rep I x cs → rep J x cs
instance : RepF Int := ⟨fun h => h⟩
instance : RepF UInt8 := ⟨fun h => h⟩
instance : RepF UInt16 := ⟨fun h => h⟩
instance : RepF UInt32 := ⟨fun h => h⟩
instance : RepF UInt64 := ⟨fun h => h⟩
instance : RepF Bool := ⟨fun h => h⟩
instance : RepF Str := ⟨fun h => h⟩
instance : RepF Unit := ⟨fun h => h⟩
theorem repL.any {α : Type} [Rep α] [RepF α] {I J : Im} : ∀ {l : List α} {cs : List Value}, repL I l cs → repL J l cs
  | [], _, h => h
  | x :: l, _, h => by obtain ⟨c, r, h1, h2, h3⟩ := h; exact ⟨c, r, h1, RepF.any h2, repL.any h3⟩
instance {n : Nat} {α : Type} [Rep α] [RepF α] : RepF (Arr n α) := ⟨fun h => repL.any h⟩
instance {α β : Type} [Rep α] [Rep β] [RepF α] [RepF β] : RepF (α × β) := ⟨fun h => by obtain ⟨c, r, e, h1, h2⟩ := h; exact ⟨c, r, e, RepF.any h1, RepF.any h2⟩⟩
theorem FlatV.v {α : Type} [Rep α] [RepF α] {x : α} : FlatV (.v x) := fun I J u h => by obtain ⟨cs, h1, h2⟩ := h; exact ⟨cs, RepF.any h1, h2⟩
theorem FlatV.t2 {a b : AV} (h : FlatV a) (k : FlatV b) : FlatV (.t2 a b) := fun I J u hu => by obtain ⟨x, y, e, h1, h2⟩ := hu; exact ⟨x, y, e, h _ _ _ h1, k _ _ _ h2⟩
theorem FlatV.t3 {a b c : AV} (h : FlatV a) (k : FlatV b) (l : FlatV c) : FlatV (.t3 a b c) := fun I J u hu => by obtain ⟨x, y, z, e, h1, h2, h3⟩ := hu; exact ⟨x, y, z, e, h _ _ _ h1, k _ _ _ h2, l _ _ _ h3⟩
section calls
variable {P : Program} {C : Ctx} {N : Nat} {σ : AEnv} {H : AHeap} {G : Gl} (hG : G.p C.I0) {f : FuncId} {d : Option Nat} {args : Array Operand} {tys : Array TypeId} {ty : TypeId} {ps : String} {af : Array Edge} {g : Option (Nat × Bool)} {as : List AV}
include hG
theorem OpP.call {post : AV → Prop} {K : AV → Prop} (h : FunA G P f as post) (hv : EvAs C σ H args.toList as) (k : ∀ r, post r → K r) : OpP P N C ⟨d, .call ⟨.value (.func f), args, tys⟩, ty, ps, af, g⟩ σ H K := fun ρ I L hs => by
  obtain ⟨vs, h1, h2⟩ := hv.get hs
  exact .call rfl h1 (h I vs (G.mono hs.im0 hG) h2) fun v J hle ⟨r, h3, h4⟩ => ⟨rfl, r, h3, k r h4⟩
theorem OpP.call1 {r : AV} {K : AV → Prop} (h : FunA G P f as (fun x => x = r)) (hv : EvAs C σ H args.toList as) (k : K r) : OpP P N C ⟨d, .call ⟨.value (.func f), args, tys⟩, ty, ps, af, g⟩ σ H K :=
  .call hG h hv fun x e => e ▸ k
theorem OpP.lend {post : AV → Prop} {K : AV → Prop} (h : FunA G P f as post) (hv : EvLs C σ H args.toList as) (hf : ∀ r, post r → FlatV r) (k : ∀ r, post r → K r) : OpP P N C ⟨d, .call ⟨.value (.func f), args, tys⟩, ty, ps, af, g⟩ σ H K := fun ρ I L hs => by
  obtain ⟨vs, h1, h2⟩ := hv.get hs
  exact .lend (φ := fun v => ∃ r, RepV I r v ∧ post r) rfl h1 (fun J hle hp => (h J vs (G.mono (hs.im0.trans hle) hG) (h2 J hle hp)).mono fun v J' _ ⟨r, h3, h4⟩ => ⟨r, hf r h4 _ _ _ h3, h4⟩) fun v ⟨r, h3, h4⟩ => ⟨rfl, r, h3, k r h4⟩
theorem OpP.lend1 {r : AV} {K : AV → Prop} (h : FunA G P f as (fun x => x = r)) (hv : EvLs C σ H args.toList as) (hf : FlatV r) (k : K r) : OpP P N C ⟨d, .call ⟨.value (.func f), args, tys⟩, ty, ps, af, g⟩ σ H K :=
  .lend hG h hv (fun x e => e ▸ hf) fun x e => e ▸ k
omit hG in
theorem OpS.callM' {ρ : Env} {I : Im} {L : Lh} {F : Operand} {vs : List Value} {post : Value → Im → Lh → Prop} {K : Value → Im → Lh → Prop} (i : Nat) {c : List (Nat × Obj)} (hc : L[i]? = some c) (hF : ev ρ F = some (.func (.func f) #[] #[])) (hv : evL ρ args.toList = some vs)
    (h : FunM P f vs.toArray I [c] post) (k : ∀ v J c' (w : World), Le I J → post v J [c'] → (∀ p ∈ c', w.heap.size ≤ p.1 ∨ p.1 ∈ c.map Prod.fst) → C.w0.heap.size ≤ w.heap.size → K v J (L.set i c')) (hshape : ∀ v J L', post v J L' → ∃ c', L' = [c']) :
    OpS P C N ⟨d, .call ⟨.value F, args, tys⟩, ty, ps, af, g⟩ ρ I L K := fun a w ha hs => by
  have hm := hs.mem
  have hsplit := fun c' => split_at L i c hc c'
  have hmc : Mem I [c] w := ⟨hm.im, fun p hp => hm.loc p (mem_chunk hc (by simpa using hp)), fun p hp => hm.sep p (mem_chunk hc (by simpa using hp)), by simpa using nodup_chunk hm.nodup hc⟩
  rw [run_callOp h.ok rfl (ha.ev hF) (ha.evL hv)]
  refine (h.run w hmc).mono ?_
  rintro e w' ⟨v, J, L', rfl, hch, hle, hn, hm', hown, hp⟩
  obtain ⟨c', rfl⟩ := hshape v J L' hp
  have hlt : ∀ p ∈ L.flatten, p.1 < w.heap.size := fun p hp => lt_of_get (hm.loc p hp)
  have hnd := hm.nodup
  rw [(hsplit c').1] at hnd
  -- the blocks of the other chunks
  have hoth : ∀ p, p ∈ (L.take i).flatten ∨ p ∈ (L.drop (i + 1)).flatten → p ∈ L.flatten ∧ p.1 ∉ c.map Prod.fst := by
    intro p hp
    rw [(hsplit c').1]
    simp only [List.map_append, List.nodup_append] at hnd
    rcases hp with hp | hp
    · exact ⟨by simp [hp], fun hx => hnd.2.2 p.1 (List.mem_map_of_mem hp) p.1 (by simp only [List.mem_append]; exact .inl hx) rfl⟩
    · exact ⟨by simp [hp], fun hx => hnd.2.1.2.2 p.1 hx p.1 (List.mem_map_of_mem hp) rfl⟩
  have hcas : ∀ p ∈ (L.set i c').flatten, p ∈ c' ∨ (p ∈ (L.take i).flatten ∨ p ∈ (L.drop (i + 1)).flatten) := by
    intro p hp
    rw [(hsplit c').2] at hp
    simp only [List.mem_append] at hp
    rcases hp with hp | hp | hp
    · exact .inr (.inl hp)
    · exact .inl hp
    · exact .inr (.inr hp)
  have hcM : ∀ k ∈ ([c] : Lh).flatten.map Prod.fst, k < C.w0.heap.size → k ∈ C.M := by
    intro k hk hlt0
    simp only [List.flatten_cons, List.flatten_nil, List.append_nil, List.mem_map] at hk
    obtain ⟨p, hp, rfl⟩ := hk
    rcases hs.own p (mem_chunk hc hp) with h1 | h1
    · omega
    · exact h1
  have hchg : Chg C.M C.w0 w' := by
    refine ⟨hch.os.trans hs.chg.os, hch.tape.trans hs.chg.tape, hch.output.trans hs.chg.output, Nat.le_trans hs.chg.size hch.size, fun k hk hkm => ?_⟩
    rw [hch.block k (Nat.lt_of_lt_of_le hk hs.chg.size) (fun hx => hkm (hcM k hx hk))]
    exact hs.chg.block k hk hkm
  refine ⟨v, rfl, J, L.set i c', ⟨⟨hm'.im, fun p hp => ?_, fun p hp => ?_, ?_⟩, hchg, fun p hp => ?_, hs.im0.trans hle, fun b h0 h1 => ?_⟩, k v J c' w hle hp (fun p hp => by simpa using hown p (by simpa using hp)) hs.chg.size⟩
  · rcases hcas p hp with h1 | h1
    · exact hm'.loc p (by simpa using h1)
    · obtain ⟨h2, h3⟩ := hoth p h1
      exact (hch.block p.1 (hlt p h2) (by simpa using h3)).trans (hm.loc p h2)
  · rcases hcas p hp with h1 | h1
    · exact hm'.sep p (by simpa using h1)
    · obtain ⟨h2, h3⟩ := hoth p h1
      cases hj : J p.1 with
      | none => rfl
      | some o => exact absurd (hn p.1 (hm.sep p h2) (by simp [hj])) (by have := hlt p h2; omega)
  · rw [(hsplit c').2]
    have hc'nd := hm'.nodup
    have hblk : ∀ p ∈ c', w.heap.size ≤ p.1 ∨ p.1 ∈ c.map Prod.fst := fun p hp => by
      have := hown p (by simpa using hp)
      simpa using this
    simp only [List.map_append, List.nodup_append] at hnd ⊢
    refine ⟨hnd.1, ⟨by simpa using hc'nd, hnd.2.1.2.1, ?_⟩, ?_⟩
    · rintro x hx y hy rfl
      obtain ⟨p, hp, rfl⟩ := List.mem_map.1 hx
      obtain ⟨q, hq, hqe⟩ := List.mem_map.1 hy
      obtain ⟨h2, h3⟩ := hoth q (.inr hq)
      rcases hblk p hp with h4 | h4
      · have := hlt q h2; omega
      · exact h3 (hqe ▸ h4)
    · rintro x hx y hy rfl
      obtain ⟨q, hq, rfl⟩ := List.mem_map.1 hx
      obtain ⟨h2, h3⟩ := hoth q (.inl hq)
      simp only [List.mem_append] at hy
      rcases hy with hy | hy
      · obtain ⟨p, hp, hpe⟩ := List.mem_map.1 hy
        rcases hblk p hp with h4 | h4
        · have := hlt q h2; omega
        · exact h3 (hpe ▸ h4)
      · exact hnd.2.2 q.1 hx q.1 (by simp only [List.mem_append]; exact .inr hy) rfl
  · rcases hcas p hp with h1 | h1
    · rcases hown p (by simpa using h1) with h2 | h2
      · exact .inl (Nat.le_trans hs.chg.size h2)
      · obtain ⟨q, hq, hqe⟩ := List.mem_map.1 h2
        rw [← hqe]
        exact hs.own q (mem_chunk hc (by simpa using hq))
    · exact hs.own p (hoth p h1).1
  · cases hi : I b with
    | none => exact Nat.le_trans hs.chg.size (hn b hi h1)
    | some o => exact hs.new b h0 (by simp [hi])
theorem OpH.callM {post : AV → List Blk → Prop} {K : AV → AHeap → Prop} {b : Bool} {B : Blk} {F : Bool × Blk → AHeap} (h : FunH G P f as [B] post) (hH : Hole H (b, B) F) (hv : EvAs C σ H args.toList as)
    (hshape : ∀ r Hs, post r Hs → ∃ B', Hs = [B']) (k : ∀ r B', post r [B'] → K r (F (b, B'))) : OpH P C N ⟨d, .call ⟨.value (.func f), args, tys⟩, ty, ps, af, g⟩ σ H K := fun ρ I L hs => by
  obtain ⟨vs, h1, h2⟩ := hv.get hs
  obtain ⟨i, X, h3, h4, h5⟩ := hH.get hs.heap
  refine OpS.callM' (post := fun v J L' => ∃ r Hs', RepV J r v ∧ repK J Hs' L' ∧ post r Hs') i h3 rfl h1 (h I [X] vs (G.mono hs.im0 hG) h2 ⟨X, [], rfl, h4.1, rfl⟩) ?_ ?_
  · intro v J c' w hle ⟨r, Hs', q1, q2, q3⟩ q4 hsz
    obtain ⟨B', rfl⟩ := hshape r Hs' q3
    obtain ⟨X', R, e, q5, q6⟩ := q2
    simp [repK] at q6
    subst q6
    cases e
    refine ⟨hle, r, _, q1, h5 J (b, B') c' hle ⟨q5, fun hb p hp => ?_⟩, k r B' q3⟩
    rcases q4 p hp with h6 | h6
    · exact Nat.le_trans hsz h6
    · obtain ⟨q, hq, hqe⟩ := List.mem_map.1 h6
      rw [← hqe]; exact h4.2 hb q hq
  · intro v J L' ⟨r, Hs', q1, q2, q3⟩
    obtain ⟨B', rfl⟩ := hshape r Hs' q3
    obtain ⟨X', R, e, q5, q6⟩ := q2
    exact ⟨X', by rw [e, q6]⟩
/-- A call that is lent nothing and may return memory of its own. -/
theorem OpH.call0 {post : AV → List Blk → Prop} {K : AV → AHeap → Prop} (h : FunH G P f as [] post) (hv : EvAs C σ H args.toList as) (k : ∀ r Hs, post r Hs → K r (Hs.map (fun B => (true, B)) ++ H)) :
    OpH P C N ⟨d, .call ⟨.value (.func f), args, tys⟩, ty, ps, af, g⟩ σ H K := fun ρ I L hs => by
  obtain ⟨vs, h1, h2⟩ := hv.get hs
  have hM := h I [] vs (G.mono hs.im0 hG) h2 rfl
  intro a w ha hst
  have hm := hst.mem
  rw [run_callOp hM.ok rfl (ha.ev (x := .func f) rfl) (ha.evL h1)]
  refine (hM.run w hm.drop).mono ?_
  rintro e w' ⟨v, J, L', rfl, hc, hle, hn, hm', hown, r, Hs', q1, q2, q3⟩
  have hlt : ∀ p ∈ L.flatten, p.1 < w.heap.size := fun p hp => lt_of_get (hm.loc p hp)
  have hnew : ∀ p ∈ L'.flatten, w.heap.size ≤ p.1 := fun p hp => by simpa using hown p hp
  have hmem : Mem J (L' ++ L) w' := by
    refine ⟨hm'.im, fun p hp => ?_, fun p hp => ?_, ?_⟩
    · simp only [List.flatten_append, List.mem_append] at hp
      rcases hp with hp | hp
      · exact hm'.loc p hp
      · exact (hc.block p.1 (hlt p hp) (by simp)).trans (hm.loc p hp)
    · simp only [List.flatten_append, List.mem_append] at hp
      rcases hp with hp | hp
      · exact hm'.sep p hp
      · cases hj : J p.1 with
        | none => rfl
        | some o => exact absurd (hn p.1 (hm.sep p hp) (by simp [hj])) (by have := hlt p hp; omega)
    · simp only [List.flatten_append, List.map_append]
      refine List.nodup_append.2 ⟨hm'.nodup, hm.nodup, ?_⟩
      rintro x hx y hy rfl
      obtain ⟨p, hp, rfl⟩ := List.mem_map.1 hx
      obtain ⟨q, hq, hqe⟩ := List.mem_map.1 hy
      have := hnew p hp
      have := hlt q hq
      omega
  refine ⟨v, rfl, J, L' ++ L, hst.step (by simpa using hc) hle hn hmem hnew, hle, r, _, q1, ?_, k r Hs' q3⟩
  exact (q2.toT (fun p hp => Nat.le_trans hst.chg.size (hnew p hp))).append (hs.heap.mono hle)
end calls
end Go.Ab
