import Derived.Test.YtlohppddhbimnaaDoorAbO
/- The state over typed values, and the rules of control. -/
set_option linter.unusedVariables false
namespace Go.Ab
open Go.Fl Go.RowKit
open Rep (rep)

abbrev AEnv := List (Nat × AV)
def lookA : AEnv → Nat → Option AV
  | [], _ => none
  | (s, v) :: r, t => bif Nat.beq s t then some v else lookA r t
theorem lookA_cons (s : Nat) (v : AV) (ρ : AEnv) (t : Nat) : lookA ((s, v) :: ρ) t = if s = t then some v else lookA ρ t := by
  by_cases h : s = t
  · subst h; simp [lookA]
  · simp [lookA, h, beq_ne h]
/-- A kind of own memory that a text of its own speaks of. -/
class UB (α : Type) where
  ub : Im → Value → α → List (Nat × Obj) → Prop
  mono : ∀ {I J w x X}, Le I J → ub I w x X → ub J w x X
/-- A chunk of own memory. -/
inductive Blk : Type 1 where
  | ob {α : Type} [r : Rep α] (w : Value) (x : α)
  | own {α : Type} [r : Rep α] (E : TypeId) (w : Value) (l : List α)
  | fz (w : Value) (a : AV)
  | usr {α : Type} [r : UB α] (w : Value) (x : α)
  | none_
def Blk.brep (I : Im) : Blk → List (Nat × Obj) → Prop
  | @Blk.ob α r w x, X => ∃ b T cs, w = ptr b 0 ∧ X = [(b, row cs T)] ∧ @Rep.rep α r I x cs
  | @Blk.own α r E w l, X => ∃ xs, OwnG E (@Rep.size α r) w l.length xs X ∧ @repL α r I l xs
  | .fz w a, X => X = [] ∧ RepV I a w
  | @Blk.usr α r w x, X => r.ub I w x X
  | .none_, _ => True
theorem Blk.mono {I J : Im} (hle : Le I J) : ∀ {B : Blk} {X : List (Nat × Obj)}, B.brep I X → B.brep J X
  | @Blk.ob α r w x, _, h => by obtain ⟨b, T, cs, h1, h2, h3⟩ := h; exact ⟨b, T, cs, h1, h2, @Rep.mono α r _ _ _ _ hle h3⟩
  | @Blk.own α r E w l, _, h => by obtain ⟨xs, h1, h2⟩ := h; exact ⟨xs, h1, h2.mono hle⟩
  | .fz w a, _, h => ⟨h.1, h.2.mono hle⟩
  | @Blk.usr α r w x, _, h => r.mono hle h
  | .none_, _, _ => trivial
/-- Chunks; a marked one lies in memory that is new in this call. -/
abbrev AHeap := List (Bool × Blk)
def repB (n0 : Nat) (I : Im) (B : Bool × Blk) (X : List (Nat × Obj)) : Prop := B.2.brep I X ∧ (B.1 = true → ∀ p ∈ X, n0 ≤ p.1)
def repH (n0 : Nat) (I : Im) : AHeap → Lh → Prop
  | [], L => L = []
  | B :: H, L => ∃ X R, L = X :: R ∧ repB n0 I B X ∧ repH n0 I H R
theorem repB.mono {n0 : Nat} {I J : Im} (hle : Le I J) {B : Bool × Blk} {X : List (Nat × Obj)} (h : repB n0 I B X) : repB n0 J B X := ⟨Blk.mono hle h.1, h.2⟩
theorem repH.mono {n0 : Nat} {I J : Im} (hle : Le I J) : ∀ {H : AHeap} {L : Lh}, repH n0 I H L → repH n0 J H L
  | [], _, h => h
  | B :: H, _, h => by obtain ⟨X, R, h1, h2, h3⟩ := h; exact ⟨X, R, h1, h2.mono hle, h3.mono hle⟩
theorem repH.append {n0 : Nat} {I : Im} : ∀ {H K : AHeap} {L M : Lh}, repH n0 I H L → repH n0 I K M → repH n0 I (H ++ K) (L ++ M)
  | [], _, _, _, h, k => by simp [repH] at h; simpa [h] using k
  | B :: H, _, _, _, h, k => by obtain ⟨X, R, rfl, h2, h3⟩ := h; exact ⟨X, R ++ _, rfl, h2, h3.append k⟩
structure RSt (C : Ctx) (I : Im) (L : Lh) (σ : AEnv) (H : AHeap) (ρ : Env) : Prop where
  env : ∀ t a, lookA σ t = some a → ∃ u, Fl.look ρ t = some u ∧ RepV I a u
  heap : repH C.w0.heap.size I H L
  im0 : Le C.I0 I
theorem RSt.mono {C : Ctx} {I J : Im} {L : Lh} {σ : AEnv} {H : AHeap} {ρ : Env} (hle : Le I J) (h : RSt C I L σ H ρ) : RSt C J L σ H ρ :=
  ⟨fun t a ht => by obtain ⟨u, h1, h2⟩ := h.env t a ht; exact ⟨u, h1, h2.mono hle⟩, h.heap.mono hle, h.im0.trans hle⟩
theorem RSt.put {C : Ctx} {I J : Im} {L L' : Lh} {σ : AEnv} {H H' : AHeap} {ρ : Env} (hle : Le I J) (h : RSt C I L σ H ρ) {d : Nat} {r : AV} {v : Value} (hv : RepV J r v) (hH : repH C.w0.heap.size J H' L') :
    RSt C J L' ((d, r) :: σ) H' ((d, v) :: ρ) := by
  refine ⟨fun t a ht => ?_, hH, h.im0.trans hle⟩
  rw [lookA_cons] at ht
  rw [Fl.look_cons]
  by_cases e : d = t
  · rw [if_pos e] at ht ⊢; cases ht; exact ⟨v, rfl, hv⟩
  · rw [if_neg e] at ht ⊢
    obtain ⟨u, h1, h2⟩ := h.env t a ht
    exact ⟨u, h1, h2.mono hle⟩
def SubA (σ' σ : AEnv) : Prop := ∀ t a, lookA σ' t = some a → lookA σ t = some a
theorem SubA.refl (σ : AEnv) : SubA σ σ := fun _ _ h => h
theorem SubA.nil (σ : AEnv) : SubA [] σ := fun _ _ h => by simp [lookA] at h
theorem SubA.cons {σ' σ : AEnv} {t : Nat} {a : AV} (h : lookA σ t = some a) (k : SubA σ' σ) : SubA ((t, a) :: σ') σ := fun s b hb => by
  rw [lookA_cons] at hb
  by_cases e : t = s
  · subst e; simp at hb; subst hb; exact h
  · rw [if_neg e] at hb; exact k s b hb
theorem RSt.sub {C : Ctx} {I : Im} {L : Lh} {σ σ' : AEnv} {H : AHeap} {ρ : Env} (h : RSt C I L σ H ρ) (k : SubA σ' σ) : RSt C I L σ' H ρ := ⟨fun t a ht => h.env t a (k t a ht), h.heap, h.im0⟩

def qA (C : Ctx) (Q : Exit → AEnv → AHeap → Prop) : Exit → Env → Im → Lh → Prop := fun e ρ I L => ∃ σ H, RSt C I L σ H ρ ∧ Q e σ H
def wpA (P : Program) (C : Ctx) (N : Nat) (c : Code) (Q : Exit → AEnv → AHeap → Prop) (σ : AEnv) (H : AHeap) : Prop :=
  ∀ ρ I L, RSt C I L σ H ρ → wpS P C N c (qA C Q) ρ I L
def wpB (P : Program) (C : Ctx) (N : Nat) (ops : Array Oper) (Q : Exit → AEnv → AHeap → Prop) (l : List Oper) (σ : AEnv) (H : AHeap) : Prop :=
  ∀ ρ I L, RSt C I L σ H ρ → wpL P C N ops (qA C Q) l ρ I L

/-- An operand's value. -/
def EvA (C : Ctx) (σ : AEnv) (H : AHeap) (x : Operand) (a : AV) : Prop := ∀ ρ I L, RSt C I L σ H ρ → ∃ u, ev ρ x = some u ∧ RepV I a u
section evA
variable {C : Ctx} {σ : AEnv} {H : AHeap}
theorem EvA.t {t : Nat} {a : AV} (h : lookA σ t = some a) : EvA C σ H (.tmp t) a := fun ρ I L hs => hs.env t a h
theorem EvA.i {n : Int} (h : (decide (-9223372036854775808 ≤ n) && decide (n ≤ 9223372036854775807)) = true) : EvA C σ H (.const (.int .i64 n)) (.v n) := fun ρ I L hs => by
  simp only [Bool.and_eq_true, decide_eq_true_eq] at h
  exact ⟨_, rfl, _, ⟨rfl, h.1, h.2⟩, rfl⟩
theorem EvA.u8 (x : UInt8) {m : Int} (h : m = (x.toNat : Int)) : EvA C σ H (.const (.int .u8 m)) (.v x) := fun ρ I L hs => ⟨_, rfl, _, rfl, by rw [h]; rfl⟩
theorem EvA.u16 (x : UInt16) {m : Int} (h : m = (x.toNat : Int)) : EvA C σ H (.const (.int .u16 m)) (.v x) := fun ρ I L hs => ⟨_, rfl, _, rfl, by rw [h]; rfl⟩
theorem EvA.u32 (x : UInt32) {m : Int} (h : m = (x.toNat : Int)) : EvA C σ H (.const (.int .u32 m)) (.v x) := fun ρ I L hs => ⟨_, rfl, _, rfl, by rw [h]; rfl⟩
theorem EvA.u64 (x : UInt64) {m : Int} (h : m = (x.toNat : Int)) : EvA C σ H (.const (.int .u64 m)) (.v x) := fun ρ I L hs => ⟨_, rfl, _, rfl, by rw [h]; rfl⟩
theorem EvA.b {x : Bool} : EvA C σ H (.const (.bool x)) (.v x) := fun ρ I L hs => ⟨_, rfl, _, rfl, rfl⟩
theorem EvA.s {x : ByteArray} (l : List UInt8) (h : x.data.toList = l) (hl : l.length ≤ 9223372036854775807) : EvA C σ H (.const (.string x)) (.v (Str.mk l)) := fun ρ I L hs => ⟨_, rfl, _, ⟨⟨x, rfl, h⟩, hl⟩, rfl⟩
theorem EvA.nilS {α : Type} [Rep α] : EvA C σ H (.const (.slice none 0 0)) (.v ([] : List α)) := fun ρ I L hs => ⟨_, rfl, _, ⟨_, rfl, [], Sl.nil I _, rfl⟩, rfl⟩
theorem EvA.raw {u : Value} : EvA C σ H (.const u) (.raw u) := fun ρ I L hs => ⟨_, rfl, rfl⟩
theorem EvA.f {f : FuncId} : EvA C σ H (.func f) (.raw (.func (.func f) #[] #[])) := fun ρ I L hs => ⟨_, rfl, rfl⟩
theorem EvA.c {α : Type} {r : Rep α} {t : Nat} {l : List α} (h : lookA σ t = some (.vc l)) : EvA C σ H (.tmp t) (.v l) := fun ρ I L hs => by
  obtain ⟨u, h1, h2, h3⟩ := hs.env t _ h
  exact ⟨u, h1, [u], ⟨u, rfl, h3⟩, rfl⟩
theorem EvA.o {t : Nat} {a : AV} {c : Bool} (h : lookA σ t = some (.opt c a)) (hc : c = true) : EvA C σ H (.tmp t) a := fun ρ I L hs => by
  obtain ⟨u, h1, h2⟩ := hs.env t _ h
  exact ⟨u, h1, h2 hc⟩
/-- An integer's value and its range. -/
theorem EvA.int {x : Operand} {n : Int} (h : EvA C σ H x (.v n)) {ρ : Env} {I : Im} {L : Lh} (hs : RSt C I L σ H ρ) : ev ρ x = some (i64 n) ∧ -9223372036854775808 ≤ n ∧ n ≤ 9223372036854775807 := by
  obtain ⟨u, h1, cs, ⟨rfl, h2⟩, rfl⟩ := h ρ I L hs
  exact ⟨h1, h2⟩
theorem EvA.bool {x : Operand} {b : Bool} (h : EvA C σ H x (.v b)) {ρ : Env} {I : Im} {L : Lh} (hs : RSt C I L σ H ρ) : ev ρ x = some (.bool b) := by
  obtain ⟨u, h1, cs, rfl, rfl⟩ := h ρ I L hs
  exact h1
theorem EvA.by8 {x : Operand} {n : UInt8} (h : EvA C σ H x (.v n)) {ρ : Env} {I : Im} {L : Lh} (hs : RSt C I L σ H ρ) : ev ρ x = some (Fl.u8 n) := by
  obtain ⟨u, h1, cs, rfl, rfl⟩ := h ρ I L hs
  exact h1
theorem EvA.by16 {x : Operand} {n : UInt16} (h : EvA C σ H x (.v n)) {ρ : Env} {I : Im} {L : Lh} (hs : RSt C I L σ H ρ) : ev ρ x = some (Ab.u16 n) := by
  obtain ⟨u, h1, cs, rfl, rfl⟩ := h ρ I L hs
  exact h1
theorem EvA.by32 {x : Operand} {n : UInt32} (h : EvA C σ H x (.v n)) {ρ : Env} {I : Im} {L : Lh} (hs : RSt C I L σ H ρ) : ev ρ x = some (Fl.u32 n) := by
  obtain ⟨u, h1, cs, rfl, rfl⟩ := h ρ I L hs
  exact h1
theorem EvA.by64 {x : Operand} {n : UInt64} (h : EvA C σ H x (.v n)) {ρ : Env} {I : Im} {L : Lh} (hs : RSt C I L σ H ρ) : ev ρ x = some (Fl.u64 n) := by
  obtain ⟨u, h1, cs, rfl, rfl⟩ := h ρ I L hs
  exact h1
theorem EvA.str {x : Operand} {s : Str} (h : EvA C σ H x (.v s)) {ρ : Env} {I : Im} {L : Lh} (hs : RSt C I L σ H ρ) : ∃ b, ev ρ x = some (.string b) ∧ b.data.toList = s.l := by
  obtain ⟨u, h1, cs, ⟨⟨b, rfl, h2⟩, _⟩, rfl⟩ := h ρ I L hs
  exact ⟨b, h1, h2⟩
theorem EvA.strLe {x : Operand} {s : Str} (h : EvA C σ H x (.v s)) {ρ : Env} {I : Im} {L : Lh} (hs : RSt C I L σ H ρ) : s.l.length ≤ 9223372036854775807 := by
  obtain ⟨u, h1, cs, ⟨_, h2⟩, rfl⟩ := h ρ I L hs
  exact h2
theorem EvA.sl {α : Type} {r : Rep α} {x : Operand} {l : List α} (h : EvA C σ H x (.v l)) {ρ : Env} {I : Im} {L : Lh} (hs : RSt C I L σ H ρ) : ∃ u, ev ρ x = some u ∧ SlA I u l := by
  obtain ⟨u, h1, cs, ⟨v, rfl, h2⟩, rfl⟩ := h ρ I L hs
  exact ⟨_, h1, h2⟩
theorem EvA.rawv {x : Operand} {w : Value} (h : EvA C σ H x (.raw w)) {ρ : Env} {I : Im} {L : Lh} (hs : RSt C I L σ H ρ) : ev ρ x = some w := by
  obtain ⟨u, h1, rfl⟩ := h ρ I L hs
  exact h1
end evA

section control
variable {P : Program} {C : Ctx} {N : Nat} {Q : Exit → AEnv → AHeap → Prop} {σ : AEnv} {H : AHeap}
theorem qA.mono {C : Ctx} {Q' : Exit → AEnv → AHeap → Prop} (h : ∀ e σ H, Q e σ H → Q' e σ H) {e : Exit} {ρ : Env} {I : Im} {L : Lh} (k : qA C Q e ρ I L) : qA C Q' e ρ I L := by
  obtain ⟨σ, H, h1, h2⟩ := k; exact ⟨σ, H, h1, h _ _ _ h2⟩
theorem wpA.mono {Q' : Exit → AEnv → AHeap → Prop} {c : Code} (h : wpA P C N c Q σ H) (hq : ∀ e σ H, Q e σ H → Q' e σ H) : wpA P C N c Q' σ H :=
  fun ρ I L hs => (h ρ I L hs).mono fun _ _ _ _ k => qA.mono hq k
theorem wpA.sub {c : Code} {σ' : AEnv} (h : wpA P C N c Q σ' H) (k : SubA σ' σ) : wpA P C N c Q σ H := fun ρ I L hs => h ρ I L (hs.sub k)
theorem wpA.skip (h : Q .normal σ H) : wpA P C N .skip Q σ H := fun ρ I L hs => .skip ⟨σ, H, hs, h⟩
theorem wpA.ret (h : Q .ret σ H) : wpA P C N .ret Q σ H := fun ρ I L hs => .ret ⟨σ, H, hs, h⟩
theorem wpA.exit {id : Nat} (h : Q (.exit id) σ H) : wpA P C N (.exit id) Q σ H := fun ρ I L hs => .exit ⟨σ, H, hs, h⟩
@[reducible] def thenA (next : AEnv → AHeap → Prop) (Q : Exit → AEnv → AHeap → Prop) : Exit → AEnv → AHeap → Prop
  | .normal, σ, H => next σ H
  | e, σ, H => Q e σ H
theorem wpA.seq {x y : Code} (h : wpA P C N x (thenA (wpA P C N y Q) Q) σ H) : wpA P C N (.seq x y) Q σ H := fun ρ I L hs => by
  refine .seq ((h ρ I L hs).mono fun e ρ I L ⟨σ, H, h1, h2⟩ => ?_)
  cases e with
  | normal => exact h2 ρ I L h1
  | _ => exact ⟨σ, H, h1, h2⟩
theorem wpA.cond {c : Operand} {x y : Code} {b : Bool} (hc : EvA C σ H c (.v b)) (ht : b = true → wpA P C N x Q σ H) (hf : b = false → wpA P C N y Q σ H) : wpA P C N (.cond c x y) Q σ H :=
  fun ρ I L hs => .cond (hc.bool hs) (fun e => ht e ρ I L hs) (fun e => hf e ρ I L hs)
theorem wpA.condP {c : Operand} {x y : Code} {p : Prop} {_ : Decidable p} (hc : EvA C σ H c (.v (decide p))) (ht : p → wpA P C N x Q σ H) (hf : ¬ p → wpA P C N y Q σ H) : wpA P C N (.cond c x y) Q σ H :=
  .cond hc (fun e => ht (of_decide_eq_true e)) (fun e => hf (of_decide_eq_false e))
@[reducible] def blockA (id : Nat) (Q : Exit → AEnv → AHeap → Prop) : Exit → AEnv → AHeap → Prop
  | .exit i, σ, H => bif Nat.beq i id then Q .normal σ H else Q (.exit i) σ H
  | e, σ, H => Q e σ H
theorem wpA.block {id : Nat} {c : Code} (h : wpA P C N c (blockA id Q) σ H) : wpA P C N (.block id c) Q σ H := fun ρ I L hs => by
  refine .block ((h ρ I L hs).mono fun e ρ I L ⟨σ, H, h1, h2⟩ => ?_)
  cases e with
  | exit i =>
    simp only [blockQ, blockA] at *
    cases hb : Nat.beq i id with
    | true => simp only [hb, cond_true] at *; exact ⟨σ, H, h1, h2⟩
    | false => simp only [hb, cond_false] at *; exact ⟨σ, H, h1, h2⟩
  | _ => exact ⟨σ, H, h1, h2⟩
/-- A loop over frames, with no word of growth. -/
theorem wpS.loop0 {Q : Exit → Env → Im → Lh → Prop} {ρ : Env} {I : Im} {L : Lh} {α : Type} (E : α → Env) (Lf : α → Lh) (F : α → Im → Prop) (μ : α → Nat) {c : Code}
    (x0 : α) (h0 : F x0 I) (hE : Sub (E x0) ρ) (hL : L = Lf x0)
    (round : ∀ x J, F x J → wpS P C N c (thenQ (fun ρ' J' L' => ∃ x', Sub (E x') ρ' ∧ L' = Lf x' ∧ F x' J' ∧ μ x' < μ x) Q) (E x) J (Lf x)) :
    wpS P C N (.loop c) Q ρ I L := fun a w ha hw => by
  intro b k cs
  have key : ∀ n x J a w, μ x = n → F x J → Fits N (E x) a → St C J (Lf x) w →
      ∃ e a' w', liftQ C N Q e a' w' ∧ Arrives P (lone (b.at a (.code c :: .inLoop c :: k)) cs w) b k cs e a' w' := by
    intro n
    induction n using Nat.strongRecOn with
    | _ n ih =>
      intro x J a w hn hF ha hw
      obtain ⟨e, a1, w1, ⟨ρ1, J1, L1, hf1, hs1, hq1⟩, harr⟩ := round x J hF a w ha hw b (.inLoop c :: k) cs
      cases e with
      | normal =>
        obtain ⟨x', hsub, rfl, hF', hlt⟩ := hq1
        obtain ⟨e2, a2, w2, hq2, harr2⟩ := ih (μ x') (hn ▸ hlt) x' J1 a1 w1 rfl hF' (hf1.sub hsub) hs1
        exact ⟨e2, a2, w2, hq2, .of_steps (Steps.trans harr (.one step_inLoop)) harr2⟩
      | exit id => exact ⟨_, a1, w1, ⟨ρ1, J1, L1, hf1, hs1, hq1⟩, .pass (x := .inLoop c) rfl (fun _ _ => .inl (by simp)) harr⟩
      | goto l => exact ⟨_, a1, w1, ⟨ρ1, J1, L1, hf1, hs1, hq1⟩, .pass (x := .inLoop c) rfl (fun _ _ => .inl (by simp)) harr⟩
      | ret => exact ⟨_, a1, w1, ⟨ρ1, J1, L1, hf1, hs1, hq1⟩, .pass (x := .inLoop c) rfl (fun _ _ => .inl (by simp)) harr⟩
      | panic ch => exact ⟨_, a1, w1, ⟨ρ1, J1, L1, hf1, hs1, hq1⟩, .pass (x := .inLoop c) rfl (fun _ _ => .inl (by simp)) harr⟩
      | outgrown => exact ⟨_, a1, w1, ⟨ρ1, J1, L1, hf1, hs1, hq1⟩, .pass (x := .inLoop c) rfl (fun _ _ => .inl (by simp)) harr⟩
  subst hL
  obtain ⟨e, a', w', hq, harr⟩ := key _ x0 I a w rfl h0 (ha.sub hE) hw
  exact ⟨e, a', w', hq, .of_steps (.one step_loop) harr⟩
/-- A loop: the states at its head are E x, Hf x with F x; μ falls. -/
theorem wpA.loop {α : Type} (E : α → AEnv) (Hf : α → AHeap) (F : α → Prop) (μ : α → Nat) {c : Code}
    (x0 : α) (h0 : F x0) (hE : SubA (E x0) σ) (hH : H = Hf x0)
    (round : ∀ x, F x → wpA P C N c (thenA (fun σ' H' => ∃ x', SubA (E x') σ' ∧ H' = Hf x' ∧ F x' ∧ μ x' < μ x) Q) (E x) (Hf x)) :
    wpA P C N (.loop c) Q σ H := fun ρ I L hs => by
  refine wpS.loop0 (α := α × Env × Lh) (fun y => y.2.1) (fun y => y.2.2) (fun y J => F y.1 ∧ RSt C J y.2.2 (E y.1) (Hf y.1) y.2.1) (fun y => μ y.1) (x0, ρ, L) ⟨h0, hH ▸ hs.sub hE⟩ (Sub.refl _) rfl ?_
  rintro ⟨x, ρ1, L1⟩ J ⟨hF, hR⟩
  refine (round x hF ρ1 J L1 hR).mono fun e ρ2 J2 L2 ⟨σ2, H2, h1, h2⟩ => ?_
  cases e with
  | normal =>
    obtain ⟨x', k1, k2, k3, k4⟩ := h2
    subst k2
    exact ⟨(x', ρ2, L2), Sub.refl _, rfl, ⟨k3, h1.sub k1⟩, k4⟩
  | _ => exact ⟨σ2, H2, h1, h2⟩
/-- A loop: what holds at its head; R does not vary. -/
theorem wpA.loopR (R : AEnv) {α : Type} (V : α → AEnv → AEnv) (Hf : α → AHeap) (F : α → Prop) (μ : α → Nat) {c : Code}
    (x0 : α) (hR : SubA R σ) (h0 : F x0) (hE : SubA (V x0 R) σ) (hH : H = Hf x0)
    (round : ∀ x, F x → wpA P C N c (thenA (fun σ' H' => ∃ x', SubA (V x' R) σ' ∧ H' = Hf x' ∧ F x' ∧ μ x' < μ x) Q) (V x R) (Hf x)) :
    wpA P C N (.loop c) Q σ H := .loop (fun x => V x R) Hf F μ x0 h0 hE hH round
/-- Several ways meet. -/
theorem wpA.meet (R : AEnv) {α : Type} (V : α → AEnv → AEnv) (Hf : α → AHeap) (F : α → Prop) {x y : Code} (hR : SubA R σ)
    (h : wpA P C N x (thenA (fun σ' H' => ∃ z, SubA (V z R) σ' ∧ H' = Hf z ∧ F z) Q) σ H) (k : ∀ z, F z → wpA P C N y Q (V z R) (Hf z)) : wpA P C N (.seq x y) Q σ H :=
  .seq (h.mono fun e σ' H' hq => by
    cases e with
    | normal =>
      obtain ⟨z, h1, h2, h3⟩ := hq
      subst h2
      exact (k z h3).sub h1
    | _ => exact hq)
end control
end Go.Ab
