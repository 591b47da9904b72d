import Derived.WalkKit
import Derived.KernelRfl
import Derived.StillTail
/- Frames by facts: a walk that knows slots by an association list, old memory by a map of what does not turn, and the call's own memory by a list of chunks. Plain Lean over any program. -/
set_option linter.unusedVariables false
namespace Go.Fl
open Go.RowKit

theorem beq_ne {s t : Nat} (h : s ≠ t) : Nat.beq s t = false := by
  cases hb : Nat.beq s t
  · rfl
  · exact absurd (Nat.eq_of_beq_eq_true hb) h

abbrev Env := List (Nat × Value)
def look : Env → Nat → Option Value
  | [], _ => none
  | (s, v) :: r, t => bif Nat.beq s t then some v else look r t
def ev (ρ : Env) : Operand → Option Value
  | .tmp t => look ρ t
  | .const v => some v
  | .global g => some (.pointer (some ⟨g, 0, none⟩))
  | .func f => some (.func (.func f) #[] #[])

structure Fits (N : Nat) (ρ : Env) (a : Act) : Prop where
  defers : a.defers = []
  size : a.tmps.size = N
  tmp : ∀ t v, look ρ t = some v → a.tmps[t]? = some v

theorem Fits.ev {N : Nat} {ρ : Env} {a : Act} (h : Fits N ρ a) {x : Operand} {v : Value} (hx : ev ρ x = some v) : a.eval x = v := by
  cases x with
  | tmp t => have := h.tmp t v hx; simp [Act.eval, this]
  | const u => simpa [Fl.ev, Act.eval] using hx
  | global g => simpa [Fl.ev, Act.eval] using hx
  | func f => simpa [Fl.ev, Act.eval] using hx

theorem look_cons (s : Nat) (v : Value) (ρ : Env) (t : Nat) : look ((s, v) :: ρ) t = if s = t then some v else look ρ t := by
  by_cases h : s = t
  · subst h; simp [look]
  · simp [look, h, beq_ne h]

theorem Fits.put {N : Nat} {ρ : Env} {a : Act} (h : Fits N ρ a) {d : Nat} (hd : d < N) (v : Value) : Fits N ((d, v) :: ρ) (a.put (some d) v) := by
  refine ⟨h.defers, by simp [Act.put, h.size], fun t u hu => ?_⟩
  rw [look_cons] at hu
  by_cases e : d = t
  · subst e
    simp at hu
    subst hu
    simp [Act.put, h.size, hd]
  · rw [if_neg e] at hu
    simp only [Act.put, Array.getElem?_setIfInBounds_ne e]
    exact h.tmp t u hu

/-- What env σ says, ρ says. -/
def Sub (σ ρ : Env) : Prop := ∀ t v, look σ t = some v → look ρ t = some v
theorem Sub.refl (ρ : Env) : Sub ρ ρ := fun _ _ h => h
theorem Sub.nil (ρ : Env) : Sub [] ρ := fun _ _ h => by simp [look] at h
theorem Sub.cons {σ ρ : Env} {t : Nat} {v : Value} (h : look ρ t = some v) (k : Sub σ ρ) : Sub ((t, v) :: σ) ρ := fun s u hu => by
  rw [look_cons] at hu
  by_cases e : t = s
  · subst e; simp at hu; subst hu; exact h
  · rw [if_neg e] at hu; exact k s u hu
theorem Fits.sub {N : Nat} {σ ρ : Env} {a : Act} (h : Fits N ρ a) (k : Sub σ ρ) : Fits N σ a := ⟨h.defers, h.size, fun t v hv => h.tmp t v (k t v hv)⟩

abbrev Im := Nat → Option Obj
abbrev Lh := List (List (Nat × Obj))
def Le (I J : Im) : Prop := ∀ b o, I b = some o → J b = some o
theorem Le.refl (I : Im) : Le I I := fun _ _ h => h
theorem Le.trans {I J K : Im} (h : Le I J) (k : Le J K) : Le I K := fun b o ho => k b o (h b o ho)

structure Mem (I : Im) (L : Lh) (w : World) : Prop where
  im : ∀ b o, I b = some o → w.heap[b]? = some o
  loc : ∀ p ∈ L.flatten, w.heap[p.1]? = some p.2
  sep : ∀ p ∈ L.flatten, I p.1 = none
  nodup : (L.flatten.map Prod.fst).Nodup

/-- w' is w but for new blocks and for the blocks of M. -/
structure Chg (M : List Nat) (w w' : World) : Prop where
  os : w'.os = w.os
  tape : w'.tape = w.tape
  output : w'.output = w.output
  size : w.heap.size ≤ w'.heap.size
  block : ∀ k, k < w.heap.size → k ∉ M → w'.heap[k]? = w.heap[k]?

theorem Chg.refl (M : List Nat) (w : World) : Chg M w w := ⟨rfl, rfl, rfl, Nat.le_refl _, fun _ _ _ => rfl⟩
theorem Chg.trans {M : List Nat} {a b c : World} (h : Chg M a b) (k : Chg M b c) : Chg M a c :=
  ⟨k.os.trans h.os, k.tape.trans h.tape, k.output.trans h.output, Nat.le_trans h.size k.size,
    fun i hi hm => (k.block i (Nat.lt_of_lt_of_le hi h.size) hm).trans (h.block i hi hm)⟩
theorem Chg.mono {M M' : List Nat} {a b : World} (h : Chg M a b) (hm : ∀ k ∈ M, k < a.heap.size → k ∈ M') : Chg M' a b :=
  ⟨h.os, h.tape, h.output, h.size, fun i hi hn => h.block i hi (fun hx => hn (hm i hx hi))⟩
theorem Chg.below {w w' : World} (h : Chg [] w w') : Below w.heap.size w w' := ⟨h.os, h.tape, h.output, h.size, fun k hk => h.block k hk (by simp)⟩

structure Ctx where
  w0 : World
  M : List Nat
  I0 : Im

structure St (C : Ctx) (I : Im) (L : Lh) (w : World) : Prop where
  mem : Mem I L w
  chg : Chg C.M C.w0 w
  own : ∀ p ∈ L.flatten, C.w0.heap.size ≤ p.1 ∨ p.1 ∈ C.M
  im0 : Le C.I0 I
  new : ∀ b, C.I0 b = none → I b ≠ none → C.w0.heap.size ≤ b

/-- What a new map of what does not turn may hold besides: new blocks alone. -/
def NewIm (n : Nat) (I J : Im) : Prop := ∀ b, I b = none → J b ≠ none → n ≤ b

theorem lt_of_get {w : World} {b : Nat} {o : Obj} (h : w.heap[b]? = some o) : b < w.heap.size := (Array.getElem?_eq_some_iff.1 h).1

def liftQ (C : Ctx) (N : Nat) (Q : Exit → Env → Im → Lh → Prop) : Exit → Act → World → Prop :=
  fun e a w => ∃ ρ I L, Fits N ρ a ∧ St C I L w ∧ Q e ρ I L
def wpS (P : Program) (C : Ctx) (N : Nat) (c : Code) (Q : Exit → Env → Im → Lh → Prop) (ρ : Env) (I : Im) (L : Lh) : Prop :=
  ∀ a w, Fits N ρ a → St C I L w → c.wp P (liftQ C N Q) a w
def dstOk (N : Nat) (l : List Oper) : Bool := l.all fun o => match o.dst with | some d => Nat.blt d N | none => true
def wpL (P : Program) (C : Ctx) (N : Nat) (ops : Array Oper) (Q : Exit → Env → Im → Lh → Prop) (l : List Oper) (ρ : Env) (I : Im) (L : Lh) : Prop :=
  dstOk N l = true → ∀ a w, Fits N ρ a → St C I L w → wpList P ops (liftQ C N Q) l a w

section control
variable {P : Program} {C : Ctx} {N : Nat} {Q : Exit → Env → Im → Lh → Prop} {ρ : Env} {I : Im} {L : Lh}

theorem wpS.mono {Q' : Exit → Env → Im → Lh → Prop} {c : Code} (h : wpS P C N c Q ρ I L) (hq : ∀ e ρ I L, Q e ρ I L → Q' e ρ I L) : wpS P C N c Q' ρ I L :=
  fun a w ha hw => wp_mono (h a w ha hw) fun _ _ _ ⟨ρ, I, L, h1, h2, h3⟩ => ⟨ρ, I, L, h1, h2, hq _ _ _ _ h3⟩
theorem wpS.sub {c : Code} {σ : Env} (h : wpS P C N c Q σ I L) (k : Sub σ ρ) : wpS P C N c Q ρ I L := fun a w ha hw => h a w (ha.sub k) hw
theorem wpS.skip (h : Q .normal ρ I L) : wpS P C N .skip Q ρ I L := fun a w ha hw => wp_skip ⟨ρ, I, L, ha, hw, h⟩
theorem wpS.ret (h : Q .ret ρ I L) : wpS P C N .ret Q ρ I L := fun a w ha hw => wp_ret ⟨ρ, I, L, ha, hw, h⟩
theorem wpS.exit {id : Nat} (h : Q (.exit id) ρ I L) : wpS P C N (.exit id) Q ρ I L := fun a w ha hw => wp_exit ⟨ρ, I, L, ha, hw, h⟩

@[reducible] def thenQ (next : Env → Im → Lh → Prop) (Q : Exit → Env → Im → Lh → Prop) : Exit → Env → Im → Lh → Prop
  | .normal, ρ, I, L => next ρ I L
  | e, ρ, I, L => Q e ρ I L
theorem wpS.seq {x y : Code} (h : wpS P C N x (thenQ (wpS P C N y Q) Q) ρ I L) : wpS P C N (.seq x y) Q ρ I L := fun a w ha hw => by
  refine wp_seq (wp_mono (h a w ha hw) fun e a w ⟨ρ, I, L, h1, h2, h3⟩ => ?_)
  cases e with
  | normal => exact h3 a w h1 h2
  | _ => exact ⟨ρ, I, L, h1, h2, h3⟩
theorem wpS.cond {c : Operand} {x y : Code} {b : Bool} (hc : ev ρ c = some (.bool b)) (ht : b = true → wpS P C N x Q ρ I L) (hf : b = false → wpS P C N y Q ρ I L) :
    wpS P C N (.cond c x y) Q ρ I L := fun a w ha hw => wp_cond_split (ha.ev hc) (fun e => ht e a w ha hw) (fun e => hf e a w ha hw)
theorem wpS.condP {c : Operand} {x y : Code} {p : Prop} [Decidable p] (hc : ev ρ c = some (.bool (decide p))) (ht : p → wpS P C N x Q ρ I L) (hf : ¬ p → wpS P C N y Q ρ I L) :
    wpS P C N (.cond c x y) Q ρ I L := .cond hc (fun e => ht (of_decide_eq_true e)) (fun e => hf (of_decide_eq_false e))
theorem wpS.condT {c : Operand} {x y : Code} (hc : ev ρ c = some (.bool true)) (ht : wpS P C N x Q ρ I L) : wpS P C N (.cond c x y) Q ρ I L := .cond hc (fun _ => ht) (fun e => by cases e)
theorem wpS.condF {c : Operand} {x y : Code} (hc : ev ρ c = some (.bool false)) (hf : wpS P C N y Q ρ I L) : wpS P C N (.cond c x y) Q ρ I L := .cond hc (fun e => by cases e) (fun _ => hf)
@[reducible] def blockQ (id : Nat) (Q : Exit → Env → Im → Lh → Prop) : Exit → Env → Im → Lh → Prop
  | .exit i, ρ, I, L => bif Nat.beq i id then Q .normal ρ I L else Q (.exit i) ρ I L
  | e, ρ, I, L => Q e ρ I L
theorem wpS.block {id : Nat} {c : Code} (h : wpS P C N c (blockQ id Q) ρ I L) : wpS P C N (.block id c) Q ρ I L := fun a w ha hw => by
  refine wp_block (wp_mono (h a w ha hw) fun e a w ⟨ρ, I, L, h1, h2, h3⟩ => ?_)
  cases e with
  | exit i =>
    by_cases hi : i = id
    · subst hi
      simp only [Exit.inBlock, if_true]
      exact ⟨ρ, I, L, h1, h2, by simpa [blockQ] using h3⟩
    · have hb : Nat.beq i id = false := beq_ne hi
      simp only [Exit.inBlock, if_neg hi]
      exact ⟨ρ, I, L, h1, h2, by simpa [blockQ, hb] using h3⟩
  | _ => exact ⟨ρ, I, L, h1, h2, h3⟩

/-- A loop: the states at its head are E x, Lf x with F x; μ falls. -/
theorem wpS.loop {α : Type} (E : α → Env) (Lf : α → Lh) (F : α → Im → Prop) (μ : α → Nat) {c : Code}
    (x0 : α) (h0 : F x0 I) (hE : Sub (E x0) ρ) (hL : L = Lf x0)
    (round : ∀ x J, Le I J → F x J → wpS P C N c (thenQ (fun ρ' J' L' => ∃ x', Sub (E x') ρ' ∧ L' = Lf x' ∧ F x' J' ∧ μ x' < μ x ∧ Le I J') Q) (E x) J (Lf x)) :
    wpS P C N (.loop c) Q ρ I L := fun a w ha hw => by
  intro b k cs
  have key : ∀ n x J a w, μ x = n → Le I J → F x J → Fits N (E x) a → St C J (Lf x) w →
      ∃ e a' w', liftQ C N Q e a' w' ∧ Arrives P (lone (b.at a (.code c :: .inLoop c :: k)) cs w) b k cs e a' w' := by
    intro n
    induction n using Nat.strongRecOn with
    | _ n ih =>
      intro x J a w hn hJ hF ha hw
      obtain ⟨e, a1, w1, ⟨ρ1, J1, L1, hf1, hs1, hq1⟩, harr⟩ := round x J hJ hF a w ha hw b (.inLoop c :: k) cs
      cases e with
      | normal =>
        obtain ⟨x', hsub, rfl, hF', hlt, hJ'⟩ := hq1
        obtain ⟨e2, a2, w2, hq2, harr2⟩ := ih (μ x') (hn ▸ hlt) x' J1 a1 w1 rfl hJ' hF' (hf1.sub hsub) hs1
        exact ⟨e2, a2, w2, hq2, .of_steps (Steps.trans harr (.one step_inLoop)) harr2⟩
      | exit id => exact ⟨_, a1, w1, ⟨ρ1, J1, L1, hf1, hs1, hq1⟩, .pass (x := .inLoop c) rfl (fun _ _ => .inl (by simp)) harr⟩
      | goto l => exact ⟨_, a1, w1, ⟨ρ1, J1, L1, hf1, hs1, hq1⟩, .pass (x := .inLoop c) rfl (fun _ _ => .inl (by simp)) harr⟩
      | ret => exact ⟨_, a1, w1, ⟨ρ1, J1, L1, hf1, hs1, hq1⟩, .pass (x := .inLoop c) rfl (fun _ _ => .inl (by simp)) harr⟩
      | panic ch => exact ⟨_, a1, w1, ⟨ρ1, J1, L1, hf1, hs1, hq1⟩, .pass (x := .inLoop c) rfl (fun _ _ => .inl (by simp)) harr⟩
      | outgrown => exact ⟨_, a1, w1, ⟨ρ1, J1, L1, hf1, hs1, hq1⟩, .pass (x := .inLoop c) rfl (fun _ _ => .inl (by simp)) harr⟩
  subst hL
  obtain ⟨e, a', w', hq, harr⟩ := key _ x0 I a w rfl (Le.refl I) h0 (ha.sub hE) hw
  exact ⟨e, a', w', hq, .of_steps (.one step_loop) harr⟩
end control

/-! ### Operations -/
/-- What an operation's run gives: a value at once, or out of a call. -/
def Yld (P : Program) (r : Result Next) (K : Value → World → Prop) : Prop :=
  match r with
  | .ok (.value v) w' => K v w'
  | .ok .skip w' => K undef w'
  | .ok (.enter f args) w' => Calls P f args w' (fun e w'' => ∃ v, e = .returned v ∧ K v w'')
  | _ => False

theorem Yld.mono {P : Program} {r : Result Next} {K K' : Value → World → Prop} (h : Yld P r K) (hk : ∀ v w, K v w → K' v w) : Yld P r K' := by
  unfold Yld at *
  split at h
  · exact hk _ _ h
  · exact hk _ _ h
  · exact Calls.mono h (fun e w ⟨v, he, hv⟩ => ⟨v, he, hk _ _ hv⟩)
  · exact h.elim

theorem Yld.wp {P : Program} {o : Oper} {a : Act} {w : World} {K : Act → World → Prop} {Q : Exit → Act → World → Prop}
    (h : Yld P ((execOp a.eval o).run P w) (fun v w' => K (a.put o.dst v) w')) : o.wp P a w K Q := by
  unfold Oper.wp
  generalize (execOp a.eval o).run P w = r at *
  cases r with
  | ok n w' =>
    cases n <;> simp only [Yld] at h <;> simp only [Oper.upon]
    case enter f args =>
      refine Calls.mono h ?_
      rintro e w'' ⟨v, rfl, hv⟩
      exact hv
    all_goals first | exact h | exact h.elim
  | halt x w' => simp only [Yld] at h

/-- An operation that leaves the world as it is. -/
def OpV (P : Program) (N : Nat) (o : Oper) (ρ : Env) (I : Im) (L : Lh) (φ : Value → Prop) : Prop :=
  ∀ a w, Fits N ρ a → Mem I L w → ∃ v, φ v ∧ ((execOp a.eval o).run P w = .ok (.value v) w)
/-- An operation that may make memory and turns none. -/
def OpX (P : Program) (N : Nat) (o : Oper) (ρ : Env) (I : Im) (L : Lh) (K : Value → Im → Lh → Prop) : Prop :=
  ∀ a w, Fits N ρ a → Mem I L w → Yld P ((execOp a.eval o).run P w) fun v w' =>
    ∃ J X, Chg [] w w' ∧ Le I J ∧ NewIm w.heap.size I J ∧ Mem J (X ++ L) w' ∧ (∀ p ∈ X.flatten, w.heap.size ≤ p.1) ∧ K v J X
/-- An operation that may turn the call's own memory. -/
def OpS (P : Program) (C : Ctx) (N : Nat) (o : Oper) (ρ : Env) (I : Im) (L : Lh) (K : Value → Im → Lh → Prop) : Prop :=
  ∀ a w, Fits N ρ a → St C I L w → Yld P ((execOp a.eval o).run P w) fun v w' => ∃ J L', St C J L' w' ∧ K v J L'

section opers
variable {P : Program} {C : Ctx} {N : Nat} {ρ : Env} {I : Im} {L : Lh} {o : Oper}
theorem OpX.ofV {K : Value → Im → Lh → Prop} (h : OpV P N o ρ I L (fun v => K v I [])) : OpX P N o ρ I L K := fun a w ha hw => by
  obtain ⟨v, hv, hr⟩ := h a w ha hw
  rw [hr]
  exact ⟨I, [], Chg.refl _ _, Le.refl _, fun b h0 h1 => absurd h0 h1, hw, by simp, hv⟩
theorem St.step {w w' : World} {J : Im} {X : Lh} (hs : St C I L w) (hc : Chg [] w w') (hle : Le I J) (hn : NewIm w.heap.size I J) (hm : Mem J (X ++ L) w')
    (hX : ∀ p ∈ X.flatten, w.heap.size ≤ p.1) : St C J (X ++ L) w' := by
  refine ⟨hm, hs.chg.trans (hc.mono (by simp)), fun p hp => ?_, hs.im0.trans hle, fun b h0 h1 => ?_⟩
  · simp only [List.flatten_append, List.mem_append] at hp
    rcases hp with hp | hp
    · exact .inl (Nat.le_trans hs.chg.size (hX p hp))
    · exact hs.own p hp
  · cases hi : I b with
    | none => exact Nat.le_trans hs.chg.size (hn b hi h1)
    | some o => exact hs.new b h0 (by simp [hi])
theorem OpS.ofX {K : Value → Im → Lh → Prop} (h : OpX P N o ρ I L (fun v J X => K v J (X ++ L))) : OpS P C N o ρ I L K := fun a w ha hs =>
  (h a w ha hs.mem).mono fun v w' ⟨J, X, hc, hle, hn, hm, hX, hk⟩ => ⟨J, X ++ L, hs.step hc hle hn hm hX, hk⟩

variable {ops : Array Oper} {Q : Exit → Env → Im → Lh → Prop} {rest : List Oper}
theorem wpL.nil (h : Q .normal ρ I L) : wpL P C N ops Q [] ρ I L := fun _ a w ha hs => wpList_nil ⟨ρ, I, L, ha, hs, h⟩
theorem dst_lt {d : Nat} {op : Op} {ty : TypeId} {ps : String} {af : Array Edge} {g : Option (Nat × Bool)}
    (h : dstOk N (⟨some d, op, ty, ps, af, g⟩ :: rest) = true) : d < N ∧ dstOk N rest = true := by
  simp only [dstOk, List.all_cons, Bool.and_eq_true] at h
  exact ⟨by have := h.1; simpa [Nat.blt_eq] using this, h.2⟩
theorem dst_none {op : Op} {ty : TypeId} {ps : String} {af : Array Edge} {g : Option (Nat × Bool)}
    (h : dstOk N (⟨none, op, ty, ps, af, g⟩ :: rest) = true) : dstOk N rest = true := by
  simp only [dstOk, List.all_cons, Bool.and_eq_true] at h
  exact h.2
/-- The next operation, which has a slot. -/
theorem wpL.s {d : Nat} {op : Op} {ty : TypeId} {ps : String} {af : Array Edge}
    (h : OpS P C N ⟨some d, op, ty, ps, af, none⟩ ρ I L (fun v J L' => wpL P C N ops Q rest ((d, v) :: ρ) J L')) :
    wpL P C N ops Q (⟨some d, op, ty, ps, af, none⟩ :: rest) ρ I L := fun hd a w ha hs => by
  obtain ⟨hlt, hd'⟩ := dst_lt hd
  refine wpList_plain rfl fun K hK => Yld.wp ((h a w ha hs).mono ?_)
  rintro v w' ⟨J, L', hs', hk⟩
  exact hK _ _ (hk hd' _ _ (ha.put hlt v) hs')
/-- The next operation, which has none. -/
theorem wpL.n {op : Op} {ty : TypeId} {ps : String} {af : Array Edge}
    (h : OpS P C N ⟨none, op, ty, ps, af, none⟩ ρ I L (fun _ J L' => wpL P C N ops Q rest ρ J L')) :
    wpL P C N ops Q (⟨none, op, ty, ps, af, none⟩ :: rest) ρ I L := fun hd a w ha hs => by
  refine wpList_plain rfl fun K hK => Yld.wp ((h a w ha hs).mono ?_)
  rintro v w' ⟨J, L', hs', hk⟩
  exact hK _ _ (hk (dst_none hd) _ _ ha hs')
theorem wpL.x {d : Nat} {op : Op} {ty : TypeId} {ps : String} {af : Array Edge}
    (h : OpX P N ⟨some d, op, ty, ps, af, none⟩ ρ I L (fun v J X => wpL P C N ops Q rest ((d, v) :: ρ) J (X ++ L))) :
    wpL P C N ops Q (⟨some d, op, ty, ps, af, none⟩ :: rest) ρ I L := .s (.ofX h)
theorem wpL.v {d : Nat} {op : Op} {ty : TypeId} {ps : String} {af : Array Edge}
    (h : OpV P N ⟨some d, op, ty, ps, af, none⟩ ρ I L (fun v => wpL P C N ops Q rest ((d, v) :: ρ) I L)) :
    wpL P C N ops Q (⟨some d, op, ty, ps, af, none⟩ :: rest) ρ I L := .s (.ofX (.ofV (by simpa using h)))
end opers

section guards
variable {P : Program} {C : Ctx} {N : Nat} {ρ : Env} {I : Im} {L : Lh} {ops : Array Oper} {Q : Exit → Env → Im → Lh → Prop} {rest : List Oper}
theorem yielded_of {j dj : Nat} {b : Bool} {a : Act} (ha : Fits N ρ a) (hj : (ops[j]?).bind (·.dst) = some dj) (hb : look ρ dj = some (.bool b)) : yielded ops a.tmps j = some b := by
  unfold yielded
  rw [hj]
  simp [ha.tmp dj _ hb]
/-- The next operation is guarded, and the guard lets it run. -/
theorem wpL.gt {d : Nat} {op : Op} {ty : TypeId} {ps : String} {af : Array Edge} {j : Nat} {want : Bool} (dj : Nat) (hj : (ops[j]?).bind (·.dst) = some dj) (hb : look ρ dj = some (.bool want))
    (h : OpS P C N ⟨some d, op, ty, ps, af, none⟩ ρ I L (fun v J L' => wpL P C N ops Q rest ((d, v) :: ρ) J L')) :
    wpL P C N ops Q (⟨some d, op, ty, ps, af, some (j, want)⟩ :: rest) ρ I L := fun hd a w ha hs => by
  obtain ⟨hlt, hd'⟩ := dst_lt hd
  refine wpList_step fun K hK => ?_
  rw [if_pos (by simp [Region.wanted, yielded_of ha hj hb])]
  have h1 := h a w ha hs
  have h2 : Yld P ((execOp a.eval ⟨some d, op, ty, ps, af, some (j, want)⟩).run P w) fun v w' => ∃ J L', St C J L' w' ∧ wpL P C N ops Q rest ((d, v) :: ρ) J L' := h1
  refine Yld.wp (h2.mono ?_)
  rintro v w' ⟨J, L', hs', hk⟩
  exact hK _ _ (hk hd' _ _ (ha.put hlt v) hs')
/-- The next operation is guarded, and the guard keeps it from running. -/
theorem wpL.gf {d : Nat} {op : Op} {ty : TypeId} {ps : String} {af : Array Edge} {j : Nat} {want : Bool} (dj : Nat) (hj : (ops[j]?).bind (·.dst) = some dj) (hb : look ρ dj = some (.bool (!want)))
    (h : wpL P C N ops Q rest ((d, undef) :: ρ) I L) :
    wpL P C N ops Q (⟨some d, op, ty, ps, af, some (j, want)⟩ :: rest) ρ I L := fun hd a w ha hs => by
  obtain ⟨hlt, hd'⟩ := dst_lt hd
  refine wpList_step fun K hK => ?_
  rw [if_neg (by simp [Region.wanted, yielded_of ha hj hb])]
  exact hK _ _ (h hd' _ _ (ha.put hlt undef) hs)
end guards

/-! ### Regions in the text's order -/
theorem wpS.region {P : Program} {C : Ctx} {N : Nat} {Q : Exit → Env → Im → Lh → Prop} {ρ : Env} {I : Im} {L : Lh} {id : Nat} {l : List Oper} (hd : dstOk N l = true) (h : wpL P C N l.toArray Q l ρ I L) :
    wpS P C N (.region id l.toArray false) Q ρ I L := fun a w ha hs => wp_region_lit (h hd a w ha hs)

/-! ### What is the call's own becomes what does not turn -/
theorem flatten_set {L : Lh} {i : Nat} {c : List (Nat × Obj)} (hc : L[i]? = some c) {p : Nat × Obj} {c' : List (Nat × Obj)} (hp : p ∈ (L.set i c').flatten) : p ∈ c' ∨ p ∈ L.flatten := by
  simp only [List.mem_flatten] at hp ⊢
  obtain ⟨l, hl, hpl⟩ := hp
  rcases List.mem_or_eq_of_mem_set hl with h | h
  · exact .inr ⟨l, h, hpl⟩
  · exact .inl (h ▸ hpl)
theorem sub_set_nil : ∀ (L : Lh) (i : Nat), (L.set i []).flatten.Sublist L.flatten
  | [], _ => by simp
  | c :: r, 0 => by simp
  | c :: r, i + 1 => by simpa using (sub_set_nil r i).append_left c
theorem split_at : ∀ (L : Lh) (i : Nat) (c : List (Nat × Obj)), L[i]? = some c → ∀ c', L.flatten = (L.take i).flatten ++ (c ++ (L.drop (i + 1)).flatten) ∧ (L.set i c').flatten = (L.take i).flatten ++ (c' ++ (L.drop (i + 1)).flatten)
  | [], i, c, h, _ => by simp at h
  | x :: r, 0, c, h, c' => by simp at h; subst h; simp
  | x :: r, i + 1, c, h, c' => by
    have := split_at r i c (by simpa using h) c'
    simp only [List.flatten_cons, List.take_succ_cons, List.drop_succ_cons, List.set_cons_succ]
    rw [this.1, this.2]
    simp
theorem mem_chunk {L : Lh} {i : Nat} {c : List (Nat × Obj)} (hc : L[i]? = some c) {p : Nat × Obj} (hp : p ∈ c) : p ∈ L.flatten :=
  List.mem_flatten.2 ⟨c, List.mem_of_getElem? hc, hp⟩
theorem inj_block {L : Lh} (hn : (L.flatten.map Prod.fst).Nodup) {p q : Nat × Obj} (hp : p ∈ L.flatten) (hq : q ∈ L.flatten) (h : p.1 = q.1) : p = q := by
  have : ∀ l : List (Nat × Obj), (l.map Prod.fst).Nodup → p ∈ l → q ∈ l → p = q := by
    intro l
    induction l with
    | nil => intro _ h; cases h
    | cons x r ih =>
      intro hnd hp hq
      simp only [List.map_cons, List.nodup_cons, List.mem_map, not_exists, not_and] at hnd
      rcases List.mem_cons.1 hp with rfl | hp' <;> rcases List.mem_cons.1 hq with rfl | hq'
      · rfl
      · exact absurd h.symm (hnd.1 q hq')
      · exact absurd h (hnd.1 p hp')
      · exact ih hnd.2 hp' hq'
  exact this _ hn hp hq
open Classical in
/-- I and the chunk c together. -/
noncomputable def Im.with (I : Im) (c : List (Nat × Obj)) : Im := fun b => if h : ∃ o, (b, o) ∈ c then some (Classical.choose h) else I b
theorem Im.with_mem {I : Im} {c : List (Nat × Obj)} (hn : (c.map Prod.fst).Nodup) {p : Nat × Obj} (hp : p ∈ c) : I.with c p.1 = some p.2 := by
  have h : ∃ o, (p.1, o) ∈ c := ⟨p.2, hp⟩
  unfold Im.with
  rw [dif_pos h]
  have h2 := Classical.choose_spec h
  have := inj_block (L := [c]) (by simpa using hn) (p := (p.1, Classical.choose h)) (q := p) (by simpa using h2) (by simpa using hp) rfl
  exact congrArg some (congrArg Prod.snd this)
theorem Im.with_le {I : Im} {c : List (Nat × Obj)} (hs : ∀ p ∈ c, I p.1 = none) : Le I (I.with c) := fun b o hb => by
  unfold Im.with
  rw [dif_neg]
  · exact hb
  · rintro ⟨o', ho⟩
    rw [hs _ ho] at hb
    cases hb
theorem Im.with_some {I : Im} {c : List (Nat × Obj)} {b : Nat} {o : Obj} (h : I.with c b = some o) : (b, o) ∈ c ∨ I b = some o := by
  unfold Im.with at h
  split at h
  · rename_i hx
    cases h
    exact .inl (Classical.choose_spec hx)
  · exact .inr h
theorem Mem.freeze {I : Im} {L : Lh} {w : World} (hm : Mem I L w) {i : Nat} {c : List (Nat × Obj)} (hc : L[i]? = some c) : Mem (I.with c) (L.set i []) w := by
  have hsplit := split_at L i c hc []
  have hnd := hm.nodup
  rw [hsplit.1] at hnd
  have hmem : ∀ p ∈ (L.set i []).flatten, p ∈ L.flatten := fun p hp => (sub_set_nil L i).subset hp
  have hap : ∀ p ∈ (L.set i []).flatten, ∀ q ∈ c, p.1 ≠ q.1 := by
    intro p hp q hq e
    rw [hsplit.2] at hp
    simp only [List.map_append, List.nodup_append, List.nil_append, List.mem_append] at hnd hp
    rcases hp with hp | hp
    · exact hnd.2.2 p.1 (List.mem_map_of_mem hp) q.1 (by simp; exact .inl ⟨_, hq⟩) e
    · exact hnd.2.1.2.2 q.1 (List.mem_map_of_mem hq) p.1 (List.mem_map_of_mem hp) e.symm
  refine ⟨fun b o hb => ?_, fun p hp => hm.loc p (hmem p hp), fun p hp => ?_, ?_⟩
  · rcases Im.with_some hb with h | h
    · exact hm.loc (b, o) (mem_chunk hc h)
    · exact hm.im b o h
  · unfold Im.with
    rw [dif_neg]
    · exact hm.sep p (hmem p hp)
    · rintro ⟨o', ho⟩
      exact hap p hp _ ho rfl
  · exact (((sub_set_nil L i).map Prod.fst).nodup hm.nodup)
theorem St.freeze {C : Ctx} {I : Im} {L : Lh} {w : World} (hs : St C I L w) {i : Nat} {c : List (Nat × Obj)} (hc : L[i]? = some c) (hM : ∀ p ∈ c, p.1 ∈ C.M → False) : St C (I.with c) (L.set i []) w := by
  have hcs : ∀ p ∈ c, I p.1 = none := fun p hp => hs.mem.sep p (mem_chunk hc hp)
  refine ⟨hs.mem.freeze hc, hs.chg, fun p hp => hs.own p ((sub_set_nil L i).subset hp), hs.im0.trans (Im.with_le hcs), fun b h0 h1 => ?_⟩
  cases hb : I.with c b with
  | none => exact absurd hb h1
  | some o =>
    rcases Im.with_some hb with h | h
    · rcases hs.own (b, o) (mem_chunk hc h) with h2 | h2
      · exact h2
      · exact (hM _ h h2).elim
    · exact hs.new b h0 (by simp [h])
theorem nodup_chunk {L : Lh} {i : Nat} {c : List (Nat × Obj)} (hn : (L.flatten.map Prod.fst).Nodup) (hc : L[i]? = some c) : (c.map Prod.fst).Nodup := by
  have hsplit := (split_at L i c hc []).1
  rw [hsplit] at hn
  simp only [List.map_append, List.nodup_append] at hn
  exact hn.2.1.1
section freeze
variable {P : Program} {C : Ctx} {N : Nat} {Q : Exit → Env → Im → Lh → Prop} {ρ : Env} {I : Im} {L : Lh}
theorem wpS.freeze (i : Nat) {c : List (Nat × Obj)} {code : Code} (hc : L[i]? = some c) (hM : ∀ p ∈ c, p.1 ∈ C.M → False)
    (h : ∀ J, Le I J → (∀ p ∈ c, J p.1 = some p.2) → wpS P C N code Q ρ J (L.set i [])) : wpS P C N code Q ρ I L := fun a w ha hs =>
  h (I.with c) (Im.with_le fun p hp => hs.mem.sep p (mem_chunk hc hp)) (fun p hp => Im.with_mem (nodup_chunk hs.mem.nodup hc) hp) a w ha (hs.freeze hc hM)
theorem wpL.freeze (i : Nat) {c : List (Nat × Obj)} {ops : Array Oper} {l : List Oper} (hc : L[i]? = some c) (hM : ∀ p ∈ c, p.1 ∈ C.M → False)
    (h : ∀ J, Le I J → (∀ p ∈ c, J p.1 = some p.2) → wpL P C N ops Q l ρ J (L.set i [])) : wpL P C N ops Q l ρ I L := fun hd a w ha hs =>
  h (I.with c) (Im.with_le fun p hp => hs.mem.sep p (mem_chunk hc hp)) (fun p hp => Im.with_mem (nodup_chunk hs.mem.nodup hc) hp) hd a w ha (hs.freeze hc hM)
end freeze

/-! ### Contracts -/
structure CallOk (P : Program) (f : FuncId) : Prop where
  ok : ∃ fn, P.funcs[f]? = some fn ∧ (fn.name == "runtime.NumGoroutine") = false ∧ fn.body.isNone = false
/-- The function f at these arguments, with the blocks of L lent to be turned. -/
structure FunM (P : Program) (f : FuncId) (args : Array Value) (I : Im) (L : Lh) (post : Value → Im → Lh → Prop) : Prop where
  ok : CallOk P f
  run : ∀ w, Mem I L w → Calls P f args w fun e w' => ∃ v J L', e = .returned v ∧ Chg (L.flatten.map Prod.fst) w w' ∧ Le I J ∧ NewIm w.heap.size I J ∧ Mem J L' w' ∧
    (∀ p ∈ L'.flatten, w.heap.size ≤ p.1 ∨ p.1 ∈ L.flatten.map Prod.fst) ∧ post v J L'
/-- The function f at these arguments: it turns nothing. -/
structure Fun (P : Program) (f : FuncId) (args : Array Value) (I : Im) (post : Value → Im → Prop) : Prop where
  ok : CallOk P f
  run : ∀ w, Mem I [] w → Calls P f args w fun e w' => ∃ v J, e = .returned v ∧ Chg [] w w' ∧ Le I J ∧ NewIm w.heap.size I J ∧ Mem J [] w' ∧ post v J
theorem Fun.mono {P : Program} {f : FuncId} {args : Array Value} {I : Im} {post post' : Value → Im → Prop} (h : Fun P f args I post) (hp : ∀ v J, Le I J → post v J → post' v J) : Fun P f args I post' :=
  ⟨h.ok, fun w hm => (h.run w hm).mono fun e w' ⟨v, J, a1, a2, a3, a4, a5, a6⟩ => ⟨v, J, a1, a2, a3, a4, a5, hp v J a3 a6⟩⟩
theorem Mem.drop {I : Im} {L : Lh} {w : World} (h : Mem I L w) : Mem I [] w := ⟨h.im, by simp, by simp, by simp⟩

def Fin (P : Program) (fn : Func) (ρ : Env) (I : Im) (L : Lh) (v : Value) : Prop :=
  ∀ N a w, Fits N ρ a → Mem I L w → (results fn a.tmps).run P w = .ok v w
def endQ (P : Program) (fn : Func) (post : Value → Im → Lh → Prop) : Exit → Env → Im → Lh → Prop
  | .normal, ρ, I, L | .ret, ρ, I, L => ∃ v, Fin P fn ρ I L v ∧ post v I L
  | _, _, _, _ => False
def argEnv : List Value → Nat → Env
  | [], _ => []
  | v :: r, k => (k, v) :: argEnv r (k + 1)
theorem look_argEnv : ∀ (l : List Value) (k t : Nat) (v : Value), look (argEnv l k) t = some v → k ≤ t ∧ l[t - k]? = some v
  | [], _, _, _, h => by simp [argEnv, look] at h
  | x :: r, k, t, v, h => by
    rw [argEnv, look_cons] at h
    by_cases e : k = t
    · subst e; simp at h; subst h; simp
    · rw [if_neg e] at h
      obtain ⟨h1, h2⟩ := look_argEnv r (k + 1) t v h
      refine ⟨by omega, ?_⟩
      rw [show t - k = (t - (k + 1)) + 1 by omega]
      simpa using h2
theorem bodyPost_of {P : Program} {fn : Func} {C : Ctx} {N : Nat} {post : Value → Im → Lh → Prop} {R : Ending → World → Prop} (h : ∀ v J L w, St C J L w → post v J L → R (.returned v) w)
    (e : Exit) (a : Act) (w : World) (hq : liftQ C N (endQ P fn post) e a w) : bodyPost P fn R e a w := by
  obtain ⟨ρ, J, L, hf, hs, hq⟩ := hq
  cases e with
  | normal => obtain ⟨v, hfin, hp⟩ := hq; exact ⟨hf.defers, v, hfin N a w hf hs.mem, h v J L w hs hp⟩
  | ret => obtain ⟨v, hfin, hp⟩ := hq; exact ⟨hf.defers, v, hfin N a w hf hs.mem, h v J L w hs hp⟩
  | _ => exact hq.elim
theorem calls_body {P : Program} {f : FuncId} {fn : Func} {c : Code} {l : List Value} {I : Im} {L : Lh} {M : List Nat} {w : World} {post : Value → Im → Lh → Prop} {R : Ending → World → Prop}
    (hf : P.funcs[f]? = some fn) (hb : fn.body = some c) (N : Nat) (hN : fn.ntmps = N) (hl : Nat.ble l.length N = true) (hm : Mem I L w) (hM : ∀ p ∈ L.flatten, p.1 ∈ M)
    (h : wpS P ⟨w, M, I⟩ N c (endQ P fn post) (argEnv l 0) I L) (hR : ∀ v J L' w', St ⟨w, M, I⟩ J L' w' → post v J L' → R (.returned v) w') : Calls P f l.toArray w R := by
  refine calls_of_wp hf hb (wp_mono (h _ w ?_ ?_) (bodyPost_of hR))
  · have hl' : l.length ≤ N := Nat.le_of_ble_eq_true hl
    refine ⟨rfl, by simp [hN]; omega, fun t v hv => ?_⟩
    obtain ⟨_, h2⟩ := look_argEnv l 0 t v hv
    have hlt : t < l.length := (List.getElem?_eq_some_iff.1 (by simpa using h2)).1
    rw [Array.getElem?_append_left (by simpa using hlt)]
    simpa using h2
  · exact ⟨hm, Chg.refl _ _, fun p hp => .inr (hM p hp), Le.refl _, fun b h0 h1 => absurd h0 h1⟩
theorem Fun.intro {P : Program} {f : FuncId} {fn : Func} {c : Code} {l : List Value} {I : Im} {post : Value → Im → Prop} (hf : P.funcs[f]? = some fn) (hb : fn.body = some c) (hn : (fn.name == "runtime.NumGoroutine") = false)
    (N : Nat) (hN : fn.ntmps = N) (hl : Nat.ble l.length N = true) (σ : Env) (hσ : argEnv l 0 = σ)
    (h : ∀ C : Ctx, C.M = [] → wpS P C N c (endQ P fn (fun v J _ => post v J)) σ I []) : Fun P f l.toArray I post :=
  ⟨⟨fn, hf, hn, by simp [hb]⟩, fun w hm => calls_body hf hb N hN hl hm (M := []) (by simp) (hσ ▸ h ⟨w, [], I⟩ rfl)
    fun v J L' w' hs hp => ⟨v, J, rfl, hs.chg, hs.im0, fun b h0 h1 => hs.new b h0 h1, hs.mem.drop, hp⟩⟩
theorem FunM.intro {P : Program} {f : FuncId} {fn : Func} {c : Code} {l : List Value} {I : Im} {L : Lh} {post : Value → Im → Lh → Prop} (hf : P.funcs[f]? = some fn) (hb : fn.body = some c) (hn : (fn.name == "runtime.NumGoroutine") = false)
    (N : Nat) (hN : fn.ntmps = N) (hl : Nat.ble l.length N = true) (σ : Env) (hσ : argEnv l 0 = σ)
    (h : ∀ C : Ctx, C.M = L.flatten.map Prod.fst → wpS P C N c (endQ P fn post) σ I L) : FunM P f l.toArray I L post :=
  ⟨⟨fn, hf, hn, by simp [hb]⟩, fun w hm => calls_body hf hb N hN hl hm (M := L.flatten.map Prod.fst) (fun p hp => List.mem_map_of_mem hp) (hσ ▸ h ⟨w, L.flatten.map Prod.fst, I⟩ rfl)
    fun v J L' w' hs hp => ⟨v, J, L', rfl, hs.chg, hs.im0, fun b h0 h1 => hs.new b h0 h1, hs.mem, hs.own, hp⟩⟩

/-! ### Calls -/
def evL (ρ : Env) : List Operand → Option (List Value)
  | [] => some []
  | x :: r => match ev ρ x, evL ρ r with
    | some v, some l => some (v :: l)
    | _, _ => none
theorem Fits.evL {N : Nat} {ρ : Env} {a : Act} (h : Fits N ρ a) : ∀ {l : List Operand} {vs : List Value}, evL ρ l = some vs → l.map a.eval = vs
  | [], vs, hl => by simp [Fl.evL] at hl; subst hl; rfl
  | x :: r, vs, hl => by
    simp only [Fl.evL] at hl
    cases hx : Fl.ev ρ x with
    | none => simp [hx] at hl
    | some v =>
      cases hr : Fl.evL ρ r with
      | none => simp [hx, hr] at hl
      | some l =>
        simp [hx, hr] at hl
        subst hl
        simp [h.ev hx, h.evL hr]
theorem run_callOp {P : Program} {f : FuncId} (ok : CallOk P f) {a : Act} {w : World} {o : Oper} {F : Operand} {args : Array Operand} {tys : Array TypeId} (ho : o.op = .call ⟨.value F, args, tys⟩)
    (hF : a.eval F = .func (.func f) #[] #[]) {vs : List Value} (hv : args.toList.map a.eval = vs) : (execOp a.eval o).run P w = .ok (.enter f vs.toArray) w := by
  obtain ⟨fn, h1, h2, h3⟩ := ok.ok
  subst hv
  have hargs : args.map a.eval = (args.toList.map a.eval).toArray := by cases args; simp
  have h2' : ¬ fn.name = "runtime.NumGoroutine" := by simpa using h2
  have h3' : fn.body ≠ none := by intro e; simp [e] at h3
  simp [execOp, ho, resolve, Deferred.ofValue, hF, invoke, callFunc, program, Sem.run, h1, h2', h3', ← hargs]
section calls
variable {P : Program} {C : Ctx} {N : Nat} {ρ : Env} {I : Im} {L : Lh} {f : FuncId} {d : Option Nat} {F : Operand} {args : Array Operand} {tys : Array TypeId} {ty : TypeId} {ps : String} {af : Array Edge} {g : Option (Nat × Bool)} {vs : List Value}
theorem OpX.call {post : Value → Im → Prop} {K : Value → Im → Lh → Prop} (hF : ev ρ F = some (.func (.func f) #[] #[])) (hv : evL ρ args.toList = some vs) (h : Fun P f vs.toArray I post)
    (k : ∀ v J, Le I J → post v J → K v J []) : OpX P N ⟨d, .call ⟨.value F, args, tys⟩, ty, ps, af, g⟩ ρ I L K := fun a w ha hm => by
  rw [run_callOp h.ok rfl (ha.ev hF) (ha.evL hv)]
  refine (h.run w hm.drop).mono ?_
  rintro e w' ⟨v, J, rfl, hc, hle, hn, hm', hp⟩
  refine ⟨v, rfl, J, [], hc, hle, hn, ?_, by simp, k v J hle hp⟩
  have hlt : ∀ p ∈ L.flatten, p.1 < w.heap.size := fun p hp => lt_of_get (hm.loc p hp)
  refine ⟨hm'.im, fun p hp => (hc.block p.1 (hlt p hp) (by simp)).trans (hm.loc p hp), fun p hp => ?_, hm.nodup⟩
  cases hj : J p.1 with
  | none => rfl
  | some o => exact absurd (hn p.1 (hm.sep p hp) (by simp [hj])) (by have := hlt p hp; omega)
/-- A call whose result holds no memory, with the call's own memory lent to be read. -/
theorem OpX.lend {φ : Value → Prop} {K : Value → Im → Lh → Prop} (hF : ev ρ F = some (.func (.func f) #[] #[])) (hv : evL ρ args.toList = some vs)
    (h : ∀ J, Le I J → (∀ p ∈ L.flatten, J p.1 = some p.2) → Fun P f vs.toArray J (fun v _ => φ v))
    (k : ∀ v, φ v → K v I []) : OpX P N ⟨d, .call ⟨.value F, args, tys⟩, ty, ps, af, g⟩ ρ I L K := fun a w ha hm => by
  have hcs : ∀ p ∈ L.flatten, I p.1 = none := hm.sep
  have h1 := h (I.with L.flatten) (Im.with_le hcs) (fun p hp => Im.with_mem hm.nodup hp)
  have hm2 : Mem (I.with L.flatten) [] w := ⟨fun b o hb => by
    rcases Im.with_some hb with h | h
    · exact hm.loc (b, o) h
    · exact hm.im b o h, by simp, by simp, by simp⟩
  rw [run_callOp h1.ok rfl (ha.ev hF) (ha.evL hv)]
  refine (h1.run w hm2).mono ?_
  rintro e w' ⟨v, J, rfl, hc, hle, hn, hm', hp⟩
  refine ⟨v, rfl, I, [], hc, Le.refl _, fun b h0 h1 => absurd h0 h1, ⟨fun b o hb => ?_, fun p hp => ?_, hm.sep, hm.nodup⟩, by simp, k v hp⟩
  · exact (hc.block b (lt_of_get (hm.im b o hb)) (by simp)).trans (hm.im b o hb)
  · exact (hc.block p.1 (lt_of_get (hm.loc p hp)) (by simp)).trans (hm.loc p hp)
/-- A call that turns chunk i of the call's own memory. -/
theorem OpS.callM {post : Value → Im → Lh → Prop} {K : Value → Im → Lh → Prop} (i : Nat) {c : List (Nat × Obj)} (hc : L[i]? = some c) (hF : ev ρ F = some (.func (.func f) #[] #[])) (hv : evL ρ args.toList = some vs)
    (h : FunM P f vs.toArray I [c] post) (k : ∀ v J c', Le I J → post v J [c'] → K v J (L.set i c')) (hshape : ∀ v J L', post v J L' → ∃ c', L' = [c']) :
    OpS P C N ⟨d, .call ⟨.value F, args, tys⟩, ty, ps, af, g⟩ ρ I L K := fun a w ha hs => by
  have hm := hs.mem
  have hsplit := fun c' => split_at L i c hc c'
  have hmc : Mem I [c] w := ⟨hm.im, fun p hp => hm.loc p (mem_chunk hc (by simpa using hp)), fun p hp => hm.sep p (mem_chunk hc (by simpa using hp)), by simpa using nodup_chunk hm.nodup hc⟩
  rw [run_callOp h.ok rfl (ha.ev hF) (ha.evL hv)]
  refine (h.run w hmc).mono ?_
  rintro e w' ⟨v, J, L', rfl, hch, hle, hn, hm', hown, hp⟩
  obtain ⟨c', rfl⟩ := hshape v J L' hp
  have hlt : ∀ p ∈ L.flatten, p.1 < w.heap.size := fun p hp => lt_of_get (hm.loc p hp)
  have hnd := hm.nodup
  rw [(hsplit c').1] at hnd
  -- the blocks of the other chunks
  have hoth : ∀ p, p ∈ (L.take i).flatten ∨ p ∈ (L.drop (i + 1)).flatten → p ∈ L.flatten ∧ p.1 ∉ c.map Prod.fst := by
    intro p hp
    rw [(hsplit c').1]
    simp only [List.map_append, List.nodup_append] at hnd
    rcases hp with hp | hp
    · exact ⟨by simp [hp], fun hx => hnd.2.2 p.1 (List.mem_map_of_mem hp) p.1 (by simp only [List.mem_append]; exact .inl hx) rfl⟩
    · exact ⟨by simp [hp], fun hx => hnd.2.1.2.2 p.1 hx p.1 (List.mem_map_of_mem hp) rfl⟩
  have hcas : ∀ p ∈ (L.set i c').flatten, p ∈ c' ∨ (p ∈ (L.take i).flatten ∨ p ∈ (L.drop (i + 1)).flatten) := by
    intro p hp
    rw [(hsplit c').2] at hp
    simp only [List.mem_append] at hp
    rcases hp with hp | hp | hp
    · exact .inr (.inl hp)
    · exact .inl hp
    · exact .inr (.inr hp)
  have hcM : ∀ k ∈ ([c] : Lh).flatten.map Prod.fst, k < C.w0.heap.size → k ∈ C.M := by
    intro k hk hlt0
    simp only [List.flatten_cons, List.flatten_nil, List.append_nil, List.mem_map] at hk
    obtain ⟨p, hp, rfl⟩ := hk
    rcases hs.own p (mem_chunk hc hp) with h1 | h1
    · omega
    · exact h1
  have hchg : Chg C.M C.w0 w' := by
    refine ⟨hch.os.trans hs.chg.os, hch.tape.trans hs.chg.tape, hch.output.trans hs.chg.output, Nat.le_trans hs.chg.size hch.size, fun k hk hkm => ?_⟩
    rw [hch.block k (Nat.lt_of_lt_of_le hk hs.chg.size) (fun hx => hkm (hcM k hx hk))]
    exact hs.chg.block k hk hkm
  refine ⟨v, rfl, J, L.set i c', ⟨⟨hm'.im, fun p hp => ?_, fun p hp => ?_, ?_⟩, hchg, fun p hp => ?_, hs.im0.trans hle, fun b h0 h1 => ?_⟩, k v J c' hle hp⟩
  · rcases hcas p hp with h1 | h1
    · exact hm'.loc p (by simpa using h1)
    · obtain ⟨h2, h3⟩ := hoth p h1
      exact (hch.block p.1 (hlt p h2) (by simpa using h3)).trans (hm.loc p h2)
  · rcases hcas p hp with h1 | h1
    · exact hm'.sep p (by simpa using h1)
    · obtain ⟨h2, h3⟩ := hoth p h1
      cases hj : J p.1 with
      | none => rfl
      | some o => exact absurd (hn p.1 (hm.sep p h2) (by simp [hj])) (by have := hlt p h2; omega)
  · rw [(hsplit c').2]
    have hc'nd := hm'.nodup
    have hblk : ∀ p ∈ c', w.heap.size ≤ p.1 ∨ p.1 ∈ c.map Prod.fst := fun p hp => by
      have := hown p (by simpa using hp)
      simpa using this
    simp only [List.map_append, List.nodup_append] at hnd ⊢
    refine ⟨hnd.1, ⟨by simpa using hc'nd, hnd.2.1.2.1, ?_⟩, ?_⟩
    · rintro x hx y hy rfl
      obtain ⟨p, hp, rfl⟩ := List.mem_map.1 hx
      obtain ⟨q, hq, hqe⟩ := List.mem_map.1 hy
      obtain ⟨h2, h3⟩ := hoth q (.inr hq)
      rcases hblk p hp with h4 | h4
      · have := hlt q h2; omega
      · exact h3 (hqe ▸ h4)
    · rintro x hx y hy rfl
      obtain ⟨q, hq, rfl⟩ := List.mem_map.1 hx
      obtain ⟨h2, h3⟩ := hoth q (.inl hq)
      simp only [List.mem_append] at hy
      rcases hy with hy | hy
      · obtain ⟨p, hp, hpe⟩ := List.mem_map.1 hy
        rcases hblk p hp with h4 | h4
        · have := hlt q h2; omega
        · exact h3 (hpe ▸ h4)
      · exact hnd.2.2 q.1 hx q.1 (by simp only [List.mem_append]; exact .inr hy) rfl
  · rcases hcas p hp with h1 | h1
    · rcases hown p (by simpa using h1) with h2 | h2
      · exact .inl (Nat.le_trans hs.chg.size h2)
      · obtain ⟨q, hq, hqe⟩ := List.mem_map.1 h2
        rw [← hqe]
        exact hs.own q (mem_chunk hc (by simpa using hq))
    · exact hs.own p (hoth p h1).1
  · cases hi : I b with
    | none => exact Nat.le_trans hs.chg.size (hn b hi h1)
    | some o => exact hs.new b h0 (by simp [hi])
end calls
end Go.Fl

/-! ### Regions that draw their order: each operation by a predicate of its own -/
namespace Go.Fl
open Go.RowKit
inductive Spec where
  | is (x : Value)
  | val (p : Value → Im → Prop) (mono : ∀ v I J, p v I → Le I J → p v J)
  | new (o : Obj)
def Spec.holds : Spec → Value → Im → Prop
  | .is x, v, _ => v = x
  | .val p _, v, J => p v J
  | .new _, v, _ => ∃ b, v = .pointer (some ⟨b, 0, none⟩)
theorem Spec.holds_mono {S : Spec} {v : Value} {I J : Im} (h : S.holds v I) (hle : Le I J) : S.holds v J := by
  cases S with
  | is x => exact h
  | val p m => exact m v I J h hle
  | new o => exact h
def Spec.opx (P : Program) (N : Nat) (o : Oper) (ρ : Env) (J : Im) (L : Lh) : Spec → Prop
  | .is x => OpX P N o ρ J L (fun v J' X => X = [] ∧ v = x)
  | .val p _ => OpX P N o ρ J L (fun v J' X => X = [] ∧ p v J')
  | .new obj => OpX P N o ρ J L (fun v _ X => ∃ b, v = .pointer (some ⟨b, 0, none⟩) ∧ X = [[(b, obj)]])
def opTmps (o : Oper) : List Nat := o.op.operands.toList.filterMap fun | .tmp t => some t | _ => none
def srcOf (s : List (Nat × Nat)) (t : Nat) : Option Nat :=
  match s with
  | [] => none
  | p :: r => bif Nat.beq p.1 t then some p.2 else srcOf r t
def lookS (acc : List (Nat × Spec)) (j : Nat) : Option Spec :=
  match acc with
  | [] => none
  | (i, S) :: r => bif Nat.beq i j then some S else lookS r j
/-- What is known of the operands: of each slot that an operation of the region fills, its predicate; of each other one, what it held. -/
def bindAll (sp : Nat → Option Spec) (s : List (Nat × Nat)) (ρ0 ρ : Env) (J : Im) : List Nat → Prop → Prop
  | [], G => G
  | t :: ts, G =>
    match srcOf s t with
    | none => look ρ t = look ρ0 t → bindAll sp s ρ0 ρ J ts G
    | some j => match sp j with
      | some (.is x) => look ρ t = some x → bindAll sp s ρ0 ρ J ts G
      | some (.val p _) => ∀ v, look ρ t = some v → p v J → bindAll sp s ρ0 ρ J ts G
      | some (.new _) => ∀ b, look ρ t = some (.pointer (some ⟨b, 0, none⟩)) → bindAll sp s ρ0 ρ J ts G
      | none => True
/-- The duty at one operation. -/
def duty (P : Program) (N : Nat) (ops : Array Oper) (sp : Nat → Option Spec) (ρ0 : Env) (I : Im) (L : Lh) (o : Oper) (s : List (Nat × Nat)) (S : Spec) : Prop :=
  ∀ J, Le I J → ∀ ρ, bindAll sp s ρ0 ρ J (opTmps o) (
    match o.guard with
    | none => S.opx P N o ρ J L
    | some (g, want) => ∀ v, (match sp g with | some T => T.holds v J | none => False) →
      (v = .bool want → S.opx P N o ρ J L) ∧ ((∀ b, v = .bool b → b ≠ want) → S.holds undef J ∧ ∀ o, S ≠ .new o))
/-- The duties one after the other; each operation's predicate is chosen at its turn. -/
def chain (P : Program) (N : Nat) (ops : Array Oper) (ρ0 : Env) (I : Im) (L : Lh) (F : List (Nat × Spec) → Prop) : List Oper → List (List (Nat × Nat)) → Nat → List (Nat × Spec) → Prop
  | [], _, _, acc => F acc
  | o :: os, s :: ss, k, acc => ∃ S, duty P N ops (lookS acc) ρ0 I L o s S ∧ chain P N ops ρ0 I L F os ss (k + 1) ((k, S) :: acc)
  | _, [], _, _ => False
def finE (J : Im) (sp : Nat → Option Spec) (G : Env → Lh → Prop) : List Oper → Nat → Env → Lh → Prop
  | o :: os, k, ρ, L =>
    match o.dst, sp k with
    | some d, some (.is x) => finE J sp G os (k + 1) ((d, x) :: ρ) L
    | some d, some (.val p _) => ∀ v, p v J → finE J sp G os (k + 1) ((d, v) :: ρ) L
    | some d, some (.new obj) => ∀ b, finE J sp G os (k + 1) ((d, .pointer (some ⟨b, 0, none⟩)) :: ρ) ([(b, obj)] :: L)
    | _, _ => False
  | [], _, ρ, L => G ρ L

def edgesBack (ops : Array Oper) : Bool := (List.range ops.size).all fun i =>
  match ops[i]? with
  | some o => o.after.all fun e => !Region.binds .any e || Nat.blt e.on i
  | none => true
def readsOf (ops : Array Oper) (o : Oper) : List Nat :=
  opTmps o ++ (match o.guard with | some (g, _) => ((ops[g]?).bind (·.dst)).toList | none => [])
def readOk (ops : Array Oper) (n i : Nat) (s : List (Nat × Nat)) (t : Nat) : Bool :=
  match srcOf s t with
  | some j => Nat.blt j n && ((ops[j]?).bind (·.dst) == some t) && Region.waitsFor .any ops i j
  | none => (List.range n).all fun j => !((ops[j]?).bind (·.dst) == some t) || j == i || Region.waitsFor .any ops j i
def opOk (ops : Array Oper) (n : Nat) (ss : List (List (Nat × Nat))) (i : Nat) : Bool :=
  match ops[i]?, ss[i]? with
  | some o, some s => o.dst.isSome && (opTmps o).all (readOk ops n i s) &&
    (match o.guard with | none => true | some (g, _) => Nat.blt g n && Region.waitsFor .any ops i g)
  | _, _ => false
def dstsOk (ops : Array Oper) (n : Nat) : Bool := (List.range n).all fun i => (List.range i).all fun j => !((ops[i]?).bind (·.dst) == (ops[j]?).bind (·.dst))
def headAll (size n : Nat) : Array Bool := ((List.range size).map fun i => Nat.blt i n).toArray
def phiOk (ops : Array Oper) (n : Nat) (ss : List (List (Nat × Nat))) : Bool :=
  Nat.ble n ops.size && edgesBack ops && (List.range n).all (opOk ops n ss) && dstsOk ops n &&
  (n == ops.size || (Region.sinkB .any ops n && Region.chainB .any ops n)) && Region.seqB .any ops (ops.size - n) n (headAll ops.size n)

def unl (listed : Array Bool) : Nat → Nat
  | 0 => 0
  | n + 1 => unl listed n + (if listed.getD n true = false then 1 else 0)
theorem unl_set_ge {listed : Array Bool} {i : Nat} : ∀ {n : Nat}, n ≤ i → unl (listed.setIfInBounds i true) n = unl listed n
  | 0, _ => rfl
  | n + 1, h => by
    rw [unl, unl, unl_set_ge (by omega), getD_set_ne true (by omega)]
theorem unl_set {listed : Array Bool} {i : Nat} (hi : listed.getD i true = false) : ∀ {n : Nat}, i < n → unl (listed.setIfInBounds i true) n + 1 = unl listed n
  | 0, h => by omega
  | n + 1, h => by
    by_cases e : i = n
    · subst e
      have hlt : i < listed.size := by
        rcases Nat.lt_or_ge i listed.size with h' | h'
        · exact h'
        · simp [Array.getElem?_eq_none h'] at hi
      have : (listed.setIfInBounds i true).getD i true = true := by simp [hlt]
      rw [unl, unl, unl_set_ge (Nat.le_refl _), if_pos hi, this]
      simp
    · rw [unl, unl, getD_set_ne true (by omega)]
      have := unl_set hi (n := n) (by omega)
      omega
theorem unl_zero {listed : Array Bool} : ∀ {n : Nat}, unl listed n = 0 → ∀ j, j < n → listed.getD j true = true
  | 0, _, j, h => by omega
  | n + 1, h0, j, h => by
    rw [unl] at h0
    by_cases e : j = n
    · subst e
      cases hl : listed.getD j true with
      | true => rfl
      | false => rw [if_pos hl] at h0; omega
    · have h1 : unl listed n = 0 := by omega
      exact unl_zero h1 j (by omega)
theorem unl_pos {listed : Array Bool} {n m : Nat} (h : unl listed n = m + 1) : ∃ i, i < n ∧ listed.getD i true = false ∧ ∀ j, j < i → listed.getD j true = true := by
  induction n with
  | zero => simp [unl] at h
  | succ n ih =>
    by_cases h0 : unl listed n = 0
    · rw [unl, h0] at h
      refine ⟨n, by omega, ?_, fun j hj => unl_zero h0 j hj⟩
      cases hl : listed.getD n true with
      | false => rfl
      | true => simp [hl] at h
    · rw [unl] at h
      obtain ⟨m', hm'⟩ : ∃ m', unl listed n = m' + 1 := ⟨unl listed n - 1, by omega⟩
      have key : ∀ k m', unl listed k = m' + 1 → ∃ i, i < k ∧ listed.getD i true = false ∧ ∀ j, j < i → listed.getD j true = true := by
        intro k
        induction k with
        | zero => intro m' h; simp [unl] at h
        | succ k ihk =>
          intro m' h
          by_cases h1 : unl listed k = 0
          · rw [unl, h1] at h
            refine ⟨k, by omega, ?_, fun j hj => unl_zero h1 j hj⟩
            cases hl : listed.getD k true with
            | false => rfl
            | true => simp [hl] at h
          · obtain ⟨m2, hm2⟩ : ∃ m2, unl listed k = m2 + 1 := ⟨unl listed k - 1, by omega⟩
            obtain ⟨i, hi, hr⟩ := ihk m2 hm2
            exact ⟨i, by omega, hr⟩
      obtain ⟨i, hi, hr⟩ := key n m' hm'
      exact ⟨i, by omega, hr⟩
theorem getD_set_true' {listed : Array Bool} {i : Nat} (hi : i < listed.size) : (listed.setIfInBounds i true).getD i false = true := by simp [hi]
theorem getD_both' {listed : Array Bool} {i : Nat} (hi : i < listed.size) {b : Bool} (h : listed.getD i true = b) : listed.getD i false = b := by
  simp [hi] at h ⊢; exact h

def mkEnv (g : Nat → Option Value) : List Nat → Env
  | [] => []
  | t :: ts => match g t with
    | some v => (t, v) :: mkEnv g ts
    | none => mkEnv g ts
theorem look_mkEnv {g : Nat → Option Value} : ∀ {ts : List Nat} {t : Nat} {v : Value}, look (mkEnv g ts) t = some v → t ∈ ts ∧ g t = some v
  | [], t, v, h => by simp [mkEnv, look] at h
  | s :: ts, t, v, h => by
    rw [mkEnv] at h
    cases hg : g s with
    | none => rw [hg] at h; have := look_mkEnv h; exact ⟨List.mem_cons_of_mem _ this.1, this.2⟩
    | some u =>
      rw [hg, look_cons] at h
      by_cases e : s = t
      · subst e; simp at h; subst h; exact ⟨List.mem_cons_self, hg⟩
      · rw [if_neg e] at h; have := look_mkEnv h; exact ⟨List.mem_cons_of_mem _ this.1, this.2⟩
theorem look_mkEnv_mem {g : Nat → Option Value} : ∀ {ts : List Nat} {t : Nat}, t ∈ ts → look (mkEnv g ts) t = g t
  | s :: ts, t, h => by
    rw [mkEnv]
    by_cases e : s = t
    · subst e
      cases hg : g s with
      | none =>
        simp only
        cases hl : look (mkEnv g ts) s with
        | none => rfl
        | some v => have := (look_mkEnv hl).2; rw [hg] at this; cases this
      | some u => simp only [look_cons, if_true]
    · have hm : t ∈ ts := by rcases List.mem_cons.1 h with h | h; exact absurd h.symm e; exact h
      cases hg : g s with
      | none => exact look_mkEnv_mem hm
      | some u => simp only [look_cons, if_neg e]; exact look_mkEnv_mem hm

theorem bindAll_elim {sp : Nat → Option Spec} {s : List (Nat × Nat)} {ρ0 ρ : Env} {J : Im} {G : Prop} : ∀ {ts : List Nat}, bindAll sp s ρ0 ρ J ts G →
    (∀ t ∈ ts, match srcOf s t with | none => look ρ t = look ρ0 t | some j => ∃ v S, look ρ t = some v ∧ sp j = some S ∧ S.holds v J) → G
  | [], h, _ => h
  | t :: ts, h, hk => by
    have h0 := hk t (List.mem_cons_self)
    have hk' : ∀ t ∈ ts, match srcOf s t with | none => look ρ t = look ρ0 t | some j => ∃ v S, look ρ t = some v ∧ sp j = some S ∧ S.holds v J := fun t' ht' => hk t' (List.mem_cons_of_mem _ ht')
    rw [bindAll] at h
    cases hs : srcOf s t with
    | none =>
      rw [hs] at h h0
      exact bindAll_elim (h h0) hk'
    | some j =>
      rw [hs] at h h0
      obtain ⟨v, S, h1, h2, h3⟩ := h0
      simp only [h2] at h
      cases S with
      | is x => simp only [Spec.holds] at h3; subst h3; exact bindAll_elim (h h1) hk'
      | val p m => exact bindAll_elim (h v h1 h3) hk'
      | new o => obtain ⟨b, rfl⟩ := h3; exact bindAll_elim (h b h1) hk'
theorem bindAll_congr {sp sp' : Nat → Option Spec} {s : List (Nat × Nat)} {ρ0 ρ : Env} {J : Im} {G G' : Prop} (hG : G → G') : ∀ {ts : List Nat}, (∀ t ∈ ts, ∀ j, srcOf s t = some j → sp j = sp' j) → bindAll sp s ρ0 ρ J ts G → bindAll sp' s ρ0 ρ J ts G'
  | [], _, h => hG h
  | t :: ts, he, h => by
    have he' : ∀ t ∈ ts, ∀ j, srcOf s t = some j → sp j = sp' j := fun t' ht' => he t' (List.mem_cons_of_mem _ ht')
    rw [bindAll] at h ⊢
    cases hs : srcOf s t with
    | none => rw [hs] at h; exact fun hx => bindAll_congr hG he' (h hx)
    | some j =>
      rw [hs] at h
      have := he t List.mem_cons_self j hs
      simp only [← this]
      cases hj : sp j with
      | none => trivial
      | some S =>
        simp only [hj] at h
        cases S with
        | is x => exact fun hx => bindAll_congr hG he' (h hx)
        | val p m => exact fun v hx hp => bindAll_congr hG he' (h v hx hp)
        | new o => exact fun b hx => bindAll_congr hG he' (h b hx)
theorem duty_congr {P : Program} {N : Nat} {ops : Array Oper} {sp sp' : Nat → Option Spec} {ρ0 : Env} {I : Im} {L : Lh} {o : Oper} {s : List (Nat × Nat)} {S : Spec} (h : duty P N ops sp ρ0 I L o s S)
    (he : ∀ t ∈ opTmps o, ∀ j, srcOf s t = some j → sp j = sp' j) (hg : ∀ g w, o.guard = some (g, w) → sp g = sp' g) : duty P N ops sp' ρ0 I L o s S := fun J hJ ρ => by
  refine bindAll_congr ?_ he (h J hJ ρ)
  cases hgd : o.guard with
  | none => exact id
  | some gw =>
    obtain ⟨g, w⟩ := gw
    have := hg g w hgd
    simp only [← this]
    exact id

theorem St.drop {C : Ctx} {I : Im} {X L : Lh} {w : World} (h : St C I (X ++ L) w) : St C I L w := by
  have hsub : L.flatten.Sublist (X ++ L).flatten := by simp
  exact ⟨⟨h.mem.im, fun p hp => h.mem.loc p (hsub.subset hp), fun p hp => h.mem.sep p (hsub.subset hp), (hsub.map Prod.fst).nodup h.mem.nodup⟩, h.chg, fun p hp => h.own p (hsub.subset hp), h.im0, h.new⟩

/-- Where the head of a region stands. -/
structure PInv (C : Ctx) (N n m n0 : Nat) (ops : Array Oper) (sp : Nat → Option Spec) (ρ0 : Env) (I : Im) (L : Lh) (listed : Array Bool) (J : Im) (vs : Nat → Value) (bs : Nat → Nat) (a : Act) (w : World) : Prop where
  head : HeadInv .any ops m listed
  le : Le I J
  st : St C J L w
  base : n0 ≤ w.heap.size
  lt0 : ∀ p ∈ L.flatten, p.1 < n0
  own0 : C.w0.heap.size ≤ n0
  blk : ∀ j, j < n → listed.getD j false = true → ∀ obj, sp j = some (.new obj) → w.heap[bs j]? = some obj ∧ J (bs j) = none ∧ n0 ≤ bs j
  inj : ∀ j k, j < n → k < n → listed.getD j false = true → listed.getD k false = true → (∃ o, sp j = some (.new o)) → (∃ o, sp k = some (.new o)) → j ≠ k → bs j ≠ bs k
  val : ∀ j, j < n → listed.getD j false = true → ∃ S, sp j = some S ∧ S.holds (vs j) J ∧ (∀ o, S = .new o → vs j = .pointer (some ⟨bs j, 0, none⟩))
  defers : a.defers = []
  size : a.tmps.size = N
  tmpI : ∀ j d, j < n → listed.getD j false = true → (ops[j]?).bind (·.dst) = some d → a.tmps[d]? = some (vs j)
  tmpO : ∀ t v, look ρ0 t = some v → (∀ j, j < n → listed.getD j false = true → (ops[j]?).bind (·.dst) ≠ some t) → a.tmps[t]? = some v

theorem waits_mem {ops : Array Oper} {j i : Nat} {oj : Oper} (hj : ops[j]? = some oj) (h : Region.waitsFor .any ops j i = true) : ∃ e ∈ oj.after, Region.binds .any e = true ∧ e.on = i := by
  obtain ⟨o', h1, e, he, hb, ho⟩ := Region.waitsFor_spec h
  have : o' = oj := Option.some.inj (h1.symm.trans hj)
  subst this
  exact ⟨e, he, hb, ho⟩

section phi
variable {P : Program} {C : Ctx} {N n m n0 : Nat} {l : List Oper} {ss : List (List (Nat × Nat))} {sp : Nat → Option Spec} {ρ0 : Env} {I : Im} {L : Lh}
theorem PInv.step {listed : Array Bool} {J : Im} {vs : Nat → Value} {bs : Nat → Nat} {a : Act} {w : World} {Q' : Exit → Act → World → Prop}
    (hN : dstOk N l = true) (hok : ∀ i, i < n → opOk l.toArray n ss i = true) (hdst : dstsOk l.toArray n = true)
    (inv : PInv C N n m n0 l.toArray sp ρ0 I L listed J vs bs a w) (hnm : n ≤ m) {i : Nat} (hr : i ∈ Region.ready .any l.toArray listed) (hin : i < n)
    (hd : ∀ o s, l[i]? = some o → ss[i]? = some s → ∃ S, sp i = some S ∧ duty P N l.toArray sp ρ0 I L o s S)
    {K : Act → World → Prop} (hK : ∀ J vs bs a' w, PInv C N n m n0 l.toArray sp ρ0 I L (listed.setIfInBounds i true) J vs bs a' w → (∃ v, ∀ o, l[i]? = some o → a' = a.put o.dst v) → K a' w) :
    wpOp P l.toArray Q' i K a w := by
  obtain ⟨hun, o, ho, hall⟩ := mem_ready.1 hr
  have hol : l[i]? = some o := by simpa using ho
  have hok' := hok i hin
  unfold opOk at hok'
  simp only [ho] at hok'
  cases hs : ss[i]? with
  | none => simp [hs] at hok'
  | some s =>
  simp only [hs, Bool.and_eq_true] at hok'
  obtain ⟨⟨hdsome, hreads⟩, hguard⟩ := hok'
  obtain ⟨d, hod⟩ := Option.isSome_iff_exists.1 hdsome
  have hdN : d < N := by
    have := List.all_eq_true.1 hN o (List.mem_of_getElem? hol)
    rw [hod] at this
    simpa [Nat.blt_eq] using this
  obtain ⟨S, hS, hduty⟩ := hd o s hol hs
  -- the slots that are read
  have hlisted : ∀ j, Region.waitsFor .any l.toArray i j = true → listed.getD j false = true := fun j hw => by
    obtain ⟨e, he, hb, heq⟩ := waits_mem ho hw
    exact heq ▸ hall e he hb
  have hilt : i < listed.size := by
    rcases Nat.lt_or_ge i listed.size with h' | h'
    · exact h'
    · simp [Array.getElem?_eq_none h'] at hun
  have hiun : listed.getD i false = false := getD_both hun
  have hnot : ∀ j, Region.waitsFor .any l.toArray j i = true → listed.getD j false = true → False := fun j hw hl => by
    obtain ⟨oj, hoj, e, he, hb, heq⟩ := Region.waitsFor_spec hw
    have := inv.head.closed j oj hoj hl e he hb
    rw [heq, hiun] at this
    cases this
  let g : Nat → Option Value := fun t => match srcOf s t with | some j => some (vs j) | none => look ρ0 t
  have hfits : Fits N (mkEnv g (opTmps o)) a := by
    refine ⟨inv.defers, inv.size, fun t v hv => ?_⟩
    obtain ⟨hmem, hg⟩ := look_mkEnv hv
    have hro := List.all_eq_true.1 hreads t hmem
    unfold readOk at hro
    cases hsrc : srcOf s t with
    | some j =>
      simp only [hsrc, Bool.and_eq_true, beq_iff_eq] at hro
      have hgv : vs j = v := by simpa [g, hsrc] using hg
      rw [← hgv]
      exact inv.tmpI j t (by simpa [Nat.blt_eq] using hro.1.1) (hlisted j hro.2) hro.1.2
    | none =>
      simp only [hsrc] at hro
      refine inv.tmpO t v (by simpa [g, hsrc] using hg) fun j hj hl hdj => ?_
      have h1 := List.all_eq_true.1 hro j (List.mem_range.2 hj)
      simp only [hdj, beq_self_eq_true, Bool.not_true, Bool.false_or, Bool.or_eq_true, beq_iff_eq] at h1
      rcases h1 with h1 | h1
      · subst h1; rw [hiun] at hl; cases hl
      · exact hnot j h1 hl
  have hbind := bindAll_elim (hduty J inv.le (mkEnv g (opTmps o))) (fun t ht => by
    have hro := List.all_eq_true.1 hreads t ht
    unfold readOk at hro
    cases hsrc : srcOf s t with
    | none => simp only; rw [look_mkEnv_mem ht]; simp [g, hsrc]
    | some j =>
      simp only
      simp only [hsrc, Bool.and_eq_true, beq_iff_eq] at hro
      obtain ⟨T, hT, hh, _⟩ := inv.val j (by simpa [Nat.blt_eq] using hro.1.1) (hlisted j hro.2)
      exact ⟨vs j, T, by rw [look_mkEnv_mem ht]; simp [g, hsrc], hT, hh⟩)
  clear hduty
  -- what a finished operation does to the invariant
  have fin : ∀ v J' b w', Chg [] w w' → Le J J' → NewIm w.heap.size J J' → St C J' L w' → S.holds v J' →
      (∀ obj, S = .new obj → v = .pointer (some ⟨b, 0, none⟩) ∧ w'.heap[b]? = some obj ∧ J' b = none ∧ w.heap.size ≤ b) → K (a.put o.dst v) w' := by
    intro v J' b w' hc hle hn hst hh hnew
    refine hK J' (fun j => if j = i then v else vs j) (fun j => if j = i then b else bs j) _ _ ?_ ⟨v, fun o' ho' => by rw [hol] at ho'; cases ho'; rfl⟩
    have hput : ∀ j, j ≠ i → (listed.setIfInBounds i true).getD j false = listed.getD j false := fun j hj => getD_set_ne false (Ne.symm hj)
    have hdne : ∀ j, j < n → j ≠ i → ∀ d', (l.toArray[j]?).bind (·.dst) = some d' → d' ≠ d := by
      intro j hj hji d' hd' e
      subst e
      have hdi : (l.toArray[i]?).bind (·.dst) = some d' := by rw [ho]; exact hod
      rcases Nat.lt_or_gt_of_ne hji with h1 | h1
      · have := List.all_eq_true.1 (List.all_eq_true.1 hdst i (List.mem_range.2 hin)) j (List.mem_range.2 h1)
        rw [hdi, hd'] at this
        simp at this
      · have := List.all_eq_true.1 (List.all_eq_true.1 hdst j (List.mem_range.2 hj)) i (List.mem_range.2 h1)
        rw [hdi, hd'] at this
        simp at this
    refine ⟨inv.head.set hr (Nat.lt_of_lt_of_le hin hnm), inv.le.trans hle, hst, Nat.le_trans inv.base hc.size, inv.lt0, inv.own0, fun j hj hl obj hobj => ?_, fun j k hj hk hlj hlk hoj hok2 hjk => ?_, fun j hj hl => ?_, ?_, ?_, fun j d' hj hl hd' => ?_, fun t u hu hno => ?_⟩
    · by_cases hji : j = i
      · subst hji
        have hSobj : S = .new obj := Option.some.inj (hS.symm.trans hobj)
        obtain ⟨_, h2, h3, h4⟩ := hnew obj hSobj
        simp only [if_true]
        exact ⟨h2, h3, Nat.le_trans inv.base h4⟩
      · rw [hput j hji] at hl
        obtain ⟨h1, h2, h3⟩ := inv.blk j hj hl obj hobj
        simp only [if_neg hji]
        refine ⟨(hc.block _ (lt_of_get h1) (by simp)).trans h1, ?_, h3⟩
        cases hx : J' (bs j) with
        | none => rfl
        | some ob => exact absurd (hn (bs j) h2 (by simp [hx])) (by have := lt_of_get h1; omega)
    · by_cases hji : j = i
      · by_cases hki : k = i
        · exact absurd (hji.trans hki.symm) hjk
        · subst hji
          obtain ⟨obj, hobj⟩ := hoj
          have hSobj : S = .new obj := Option.some.inj (hS.symm.trans hobj)
          obtain ⟨_, _, _, h4⟩ := hnew obj hSobj
          rw [hput k hki] at hlk
          obtain ⟨obj2, hobj2⟩ := hok2
          have := lt_of_get (inv.blk k hk hlk obj2 hobj2).1
          simp only [if_true, if_neg hki]
          omega
      · rw [hput j hji] at hlj
        by_cases hki : k = i
        · subst hki
          obtain ⟨obj, hobj⟩ := hok2
          have hSobj : S = .new obj := Option.some.inj (hS.symm.trans hobj)
          obtain ⟨_, _, _, h4⟩ := hnew obj hSobj
          obtain ⟨obj2, hobj2⟩ := hoj
          have := lt_of_get (inv.blk j hj hlj obj2 hobj2).1
          simp only [if_true, if_neg hji]
          omega
        · rw [hput k hki] at hlk
          simp only [if_neg hji, if_neg hki]
          exact inv.inj j k hj hk hlj hlk hoj hok2 hjk
    · by_cases hji : j = i
      · subst hji
        refine ⟨S, hS, by simpa using hh, fun ob hob => ?_⟩
        simpa using (hnew ob hob).1
      · rw [hput j hji] at hl
        obtain ⟨T, hT, h1, h2⟩ := inv.val j hj hl
        refine ⟨T, hT, ?_, fun ob hob => ?_⟩
        · simp only [if_neg hji]; exact Spec.holds_mono h1 hle
        · simp only [if_neg hji]; exact h2 ob hob
    · rw [hod]; exact inv.defers
    · rw [hod]; simp [Act.put, inv.size]
    · rw [hod]
      by_cases hji : j = i
      · subst hji
        have : d' = d := by rw [ho] at hd'; exact Option.some.inj (hd'.symm.trans hod)
        subst this
        simp [Act.put, inv.size, hdN]
      · rw [hput j hji] at hl
        have hne := hdne j hj hji d' hd'
        simp only [if_neg hji, Act.put, Array.getElem?_setIfInBounds_ne (Ne.symm hne)]
        exact inv.tmpI j d' hj hl hd'
    · rw [hod]
      have hdt : d ≠ t := by
        intro e
        subst e
        exact hno i hin (getD_set_true' hilt) (by rw [ho]; exact hod)
      simp only [Act.put, Array.getElem?_setIfInBounds_ne hdt]
      refine inv.tmpO t u hu fun j hj hl => hno j hj ?_
      by_cases hji : j = i
      · subst hji; rw [hiun] at hl; cases hl
      · rw [hput j hji]; exact hl
  have run : S.opx P N o (mkEnv g (opTmps o)) J L → o.wp P a w K Q' := by
    intro h
    cases S with
    | is x =>
      refine Yld.wp ((h a w hfits inv.st.mem).mono ?_)
      rintro v w' ⟨J', X, hc, hle, hn, hm, hX, rfl, hp⟩
      exact fin v J' 0 w' hc hle hn ((inv.st.step hc hle hn hm hX).drop) hp (fun obj h => by cases h)
    | val p m =>
      refine Yld.wp ((h a w hfits inv.st.mem).mono ?_)
      rintro v w' ⟨J', X, hc, hle, hn, hm, hX, rfl, hp⟩
      exact fin v J' 0 w' hc hle hn ((inv.st.step hc hle hn hm hX).drop) hp (fun obj h => by cases h)
    | new obj =>
      refine Yld.wp ((h a w hfits inv.st.mem).mono ?_)
      rintro v w' ⟨J', X, hc, hle, hn, hm, hX, b, rfl, rfl⟩
      refine fin _ J' b w' hc hle hn ((inv.st.step hc hle hn hm hX).drop) ⟨b, rfl⟩ (fun obj' h => ?_)
      cases h
      exact ⟨rfl, hm.loc (b, obj) (by simp), hm.sep (b, obj) (by simp), hX (b, obj) (by simp)⟩
  unfold wpOp
  simp only [ho]
  cases hg : o.guard with
  | none =>
    rw [hg] at hbind
    rw [if_pos (by simp [Region.wanted, hg])]
    exact .inl (run hbind)
  | some gw =>
    obtain ⟨gi, want⟩ := gw
    rw [hg] at hbind hguard
    simp only [Bool.and_eq_true] at hguard
    have hgn : gi < n := by simpa [Nat.blt_eq] using hguard.1
    have hgl := hlisted gi hguard.2
    obtain ⟨T, hT, hh, _⟩ := inv.val gi hgn hgl
    have hb2 := hbind (vs gi) (by rw [hT]; exact hh)
    have hogi := hok gi hgn
    unfold opOk at hogi
    obtain ⟨og, hog⟩ : ∃ og, l.toArray[gi]? = some og := by
      cases hx : l.toArray[gi]? with
      | none => simp [hx] at hogi
      | some og => exact ⟨og, rfl⟩
    obtain ⟨sg, hsg⟩ : ∃ sg, ss[gi]? = some sg := by
      cases hx : ss[gi]? with
      | none => simp [hog, hx] at hogi
      | some sg => exact ⟨sg, rfl⟩
    simp only [hog, hsg, Bool.and_eq_true] at hogi
    obtain ⟨dg, hdg⟩ := Option.isSome_iff_exists.1 hogi.1.1
    have htg := inv.tmpI gi dg hgn hgl (by rw [hog]; exact hdg)
    have hy : yielded l.toArray a.tmps gi = (match vs gi with | .bool b => some b | _ => none) := by
      unfold yielded
      rw [hog]
      simp only [Option.bind_some, hdg, htg]
      cases vs gi <;> rfl
    by_cases hv : vs gi = .bool want
    · rw [if_pos (by simp [Region.wanted, hg, hy, hv])]
      exact .inl (run (hb2.1 hv))
    · have hnw : ∀ b, vs gi = .bool b → b ≠ want := fun b hb e => hv (by rw [hb, e])
      have hwf : ¬ Region.wanted o (yielded l.toArray a.tmps) = true := by
        simp only [Region.wanted, hg, hy]
        cases hx : vs gi <;> simp
        rename_i b
        exact hnw b hx
      rw [if_neg hwf]
      obtain ⟨h1, hSv⟩ := hb2.2 hnw
      exact fin undef J 0 w (Chg.refl _ _) (Le.refl _) (fun b h0 h1 => absurd h0 h1) inv.st h1 (fun obj h => absurd h (hSv obj))
end phi
end Go.Fl

namespace Go.Fl
open Go.RowKit
theorem St.cons {C : Ctx} {I : Im} {L : Lh} {w : World} (hs : St C I L w) {b : Nat} {o : Obj} (hb : w.heap[b]? = some o) (hI : I b = none) (hn : ∀ p ∈ L.flatten, p.1 ≠ b) (ho : C.w0.heap.size ≤ b) : St C I ([(b, o)] :: L) w := by
  refine ⟨⟨hs.mem.im, fun p hp => ?_, fun p hp => ?_, ?_⟩, hs.chg, fun p hp => ?_, hs.im0, hs.new⟩
  · simp only [List.flatten_cons, List.cons_append, List.nil_append, List.mem_cons] at hp
    rcases hp with rfl | hp
    · exact hb
    · exact hs.mem.loc p hp
  · simp only [List.flatten_cons, List.cons_append, List.nil_append, List.mem_cons] at hp
    rcases hp with rfl | hp
    · exact hI
    · exact hs.mem.sep p hp
  · simp only [List.flatten_cons, List.cons_append, List.nil_append, List.map_cons, List.nodup_cons, List.mem_map, not_exists, not_and]
    exact ⟨fun p hp => hn p hp, hs.mem.nodup⟩
  · simp only [List.flatten_cons, List.cons_append, List.nil_append, List.mem_cons] at hp
    rcases hp with rfl | hp
    · exact .inl ho
    · exact hs.own p hp

section phi
variable {P : Program} {C : Ctx} {N n m n0 : Nat} {l : List Oper} {ss : List (List (Nat × Nat))} {sp : Nat → Option Spec} {ρ0 : Env} {I : Im} {L : Lh}
theorem finE_elim {listed : Array Bool} {J : Im} {vs : Nat → Value} {bs : Nat → Nat} {a : Act} {w : World} (inv : PInv C N n n n0 l.toArray sp ρ0 I L listed J vs bs a w)
    (hall : ∀ j, j < n → listed.getD j false = true) {G : Env → Lh → Prop} :
    ∀ (os : List Oper) (k : Nat) (ρ : Env) (Lk : Lh), (∀ j, os[j]? = (l.take n)[k + j]?) → k ≤ n →
      (∀ t v, look ρ t = some v → (∀ j, k ≤ j → j < n → (l.toArray[j]?).bind (·.dst) ≠ some t) → a.tmps[t]? = some v) → St C J Lk w →
      (∀ p ∈ Lk.flatten, p ∈ L.flatten ∨ ∃ j, j < k ∧ p.1 = bs j ∧ ∃ o, sp j = some (.new o)) →
      finE J sp G os k ρ Lk → ∃ ρ' L', Fits N ρ' a ∧ St C J L' w ∧ G ρ' L'
  | os, k, ρ, Lk, hos, hk, htmp, hst, hblk, h => by
    by_cases hkn : k = n
    · subst hkn
      have ho : os = [] := by
        cases os with
        | nil => rfl
        | cons x r =>
          have := hos 0
          have h9 : (l.take k)[k + 0]? = none := List.getElem?_eq_none (by rw [List.length_take]; omega)
          rw [h9] at this
          cases this
      subst ho
      simp only [finE] at h
      exact ⟨ρ, Lk, ⟨inv.defers, inv.size, fun t v hv => htmp t v hv (fun j h1 h2 => by omega)⟩, hst, h⟩
    · have hkn' : k < n := by omega
      cases os with
      | nil =>
        have h1 := hos 0
        simp at h1
        have hj := hall k hkn'
        have hl : l.length ≤ k := by omega
        have hsz := inv.head.size
        have : k < listed.size := by
          rcases Nat.lt_or_ge k listed.size with h' | h'
          · exact h'
          · simp [Array.getElem?_eq_none h'] at hj
        simp at hsz
        omega
      | cons o os =>
        have h1 := hos 0
        have hol : l[k]? = some o := by simpa [hkn'] using h1.symm
        obtain ⟨T, hT, hh, hnew⟩ := inv.val k hkn' (hall k hkn')
        have hos' : ∀ j, os[j]? = (l.take n)[k + 1 + j]? := fun j => by have := hos (j + 1); simpa [Nat.add_assoc, Nat.add_comm 1 j] using this
        cases hod : o.dst with
        | none => simp only [finE, hod] at h
        | some d =>
          have htk := inv.tmpI k d hkn' (hall k hkn') (by simp [hol, hod])
          have htmp' : ∀ x, x = vs k → ∀ t v, look ((d, x) :: ρ) t = some v → (∀ j, k + 1 ≤ j → j < n → (l.toArray[j]?).bind (·.dst) ≠ some t) → a.tmps[t]? = some v := by
            rintro x rfl t v hv hno
            rw [look_cons] at hv
            by_cases e : d = t
            · subst e; simp at hv; subst hv; exact htk
            · rw [if_neg e] at hv
              refine htmp t v hv fun j h3 h4 => ?_
              by_cases hjk : j = k
              · subst hjk
                intro he
                simp [hol, hod] at he
                exact e he
              · exact hno j (by omega) h4
          have hblk' : ∀ p ∈ Lk.flatten, p ∈ L.flatten ∨ ∃ j, j < k + 1 ∧ p.1 = bs j ∧ ∃ o, sp j = some (.new o) := fun p hp => by
            rcases hblk p hp with h3 | ⟨j, h3, h4⟩
            · exact .inl h3
            · exact .inr ⟨j, by omega, h4⟩
          cases T with
          | is x =>
            simp only [finE, hod, hT] at h
            exact finE_elim inv hall os (k + 1) _ Lk hos' (by omega) (htmp' x hh.symm) hst hblk' h
          | val p m =>
            simp only [finE, hod, hT] at h
            exact finE_elim inv hall os (k + 1) _ Lk hos' (by omega) (htmp' (vs k) rfl) hst hblk' (h (vs k) hh)
          | new obj =>
            simp only [finE, hod, hT] at h
            obtain ⟨hb1, hb2, hb3⟩ := inv.blk k hkn' (hall k hkn') obj hT
            refine finE_elim inv hall os (k + 1) _ _ hos' (by omega) (htmp' _ (hnew obj rfl).symm) (hst.cons hb1 hb2 (fun q hq => ?_) (Nat.le_trans inv.own0 hb3)) (fun q hq => ?_) (h (bs k))
            · rcases hblk q hq with h3 | ⟨j, h3, h4, h5⟩
              · have := inv.lt0 q h3; omega
              · rw [h4]
                exact inv.inj j k (by omega) hkn' (hall j (by omega)) (hall k hkn') h5 ⟨obj, hT⟩ (by omega)
            · simp only [List.flatten_cons, List.cons_append, List.nil_append, List.mem_cons] at hq
              rcases hq with rfl | hq
              · exact .inr ⟨k, by omega, rfl, obj, hT⟩
              · exact hblk' q hq
theorem ready_of_least {listed : Array Bool} {ops : Array Oper} (hb : edgesBack ops = true) (hsz : listed.size = ops.size) {i : Nat} (hi : listed.getD i true = false) (hlt : ∀ j, j < i → listed.getD j true = true) :
    i ∈ Region.ready .any ops listed := by
  have hil : i < listed.size := by
    rcases Nat.lt_or_ge i listed.size with h' | h'
    · exact h'
    · simp [Array.getElem?_eq_none h'] at hi
  rw [mem_ready]
  refine ⟨hi, ops[i]'(by omega), by simp, fun e he hbind => ?_⟩
  have h1 := List.all_eq_true.1 hb i (List.mem_range.2 (by omega))
  simp only [Array.getElem?_eq_getElem (show i < ops.size by omega), Array.all_eq_true_iff_forall_mem] at h1
  have h2 := h1 e he
  rw [hbind] at h2
  have hlt2 : e.on < i := by simpa [Nat.blt_eq] using h2
  have h3 := hlt e.on hlt2
  have : e.on < listed.size := by omega
  simp [this] at h3 ⊢
  exact h3
theorem wpAny_phi {Q' : Exit → Act → World → Prop} (hN : dstOk N l = true) (hback : edgesBack l.toArray = true) (hok : ∀ i, i < n → opOk l.toArray n ss i = true) (hdst : dstsOk l.toArray n = true)
    (hle : n ≤ l.length) (htail : n = l.length ∨ (Region.sinkB .any l.toArray n = true ∧ Region.chainB .any l.toArray n = true)) (hseq : Region.seqB .any l.toArray (l.length - n) n (headAll l.length n) = true)
    (hd : ∀ i o s, i < n → l[i]? = some o → ss[i]? = some s → ∃ S, sp i = some S ∧ duty P N l.toArray sp ρ0 I L o s S)
    (hfin : ∀ listed J vs bs a w, PInv C N n n n0 l.toArray sp ρ0 I L listed J vs bs a w → (∀ j, j < n → listed.getD j false = true) → wpList P l.toArray Q' (l.drop n) a w) :
    ∀ (m : Nat) (listed : Array Bool) J vs bs a w, PInv C N n n n0 l.toArray sp ρ0 I L listed J vs bs a w → unl listed n = m → wpAny P .any l.toArray Q' (m + (l.length - n)) listed a w
  | 0, listed, J, vs, bs, a, w, inv, hm => by
    have hsz : listed.size = l.length := by simpa using inv.head.size
    have hall : ∀ j, j < n → listed.getD j false = true := fun j hj => getD_both' (by omega) (unl_zero hm j hj)
    have heq : listed = headAll l.length n := by
      refine Array.ext (by simp [headAll, hsz]) fun j h1 h2 => ?_
      have e1 : (headAll l.length n)[j]'h2 = Nat.blt j n := by simp [headAll]
      rw [e1]
      by_cases hj : j < n
      · have := hall j hj
        simp [h1] at this
        rw [this]
        exact (Nat.blt_eq ▸ hj : Nat.blt j n = true).symm
      · have := inv.head.tail j (by omega) (by simp; omega)
        simp [h1] at this
        rw [this]
        cases hb : Nat.blt j n
        · rfl
        · exact absurd (Nat.blt_eq ▸ hb : j < n) hj
    have hw := hfin listed J vs bs a w inv hall
    have h2 := wpAny_of_seq (md := .any) (Q' := Q') (l.drop n) n listed a w (fun j => by simp [List.getElem?_drop]) (by rw [heq]; simpa using hseq) hw
    simpa using h2
  | m + 1, listed, J, vs, bs, a, w, inv, hm => by
    have hsz : listed.size = l.length := by simpa using inv.head.size
    obtain ⟨i, hin, hi, hlt⟩ := unl_pos hm
    have hr := ready_of_least hback (by simpa using inv.head.size) hi hlt
    rw [show m + 1 + (l.length - n) = (m + (l.length - n)) + 1 by omega]
    refine ⟨fun h0 => (by rw [h0] at hr; cases hr), fun j hj => ?_⟩
    have hjn : j < n := by
      rcases Nat.lt_or_ge j n with h | h
      · exact h
      · rcases htail with ht | ⟨hs, hc⟩
        · obtain ⟨_, o, ho, _⟩ := mem_ready.1 hj
          have := (Array.getElem?_eq_some_iff.1 ho).1
          simp at this
          omega
        · have hnl : n < l.toArray.size := by
            obtain ⟨_, o, ho, _⟩ := mem_ready.1 hj
            have := (Array.getElem?_eq_some_iff.1 ho).1
            omega
          exact absurd hj (tail_waits hs hc hnl inv.head _ i rfl hin hi j h)
    refine inv.step hN hok hdst (Nat.le_refl _) hj hjn (fun o s h1 h2 => hd j o s hjn h1 h2) fun J' vs' bs' a' w' inv' _ => ?_
    refine wpAny_phi hN hback hok hdst hle htail hseq hd hfin m _ J' vs' bs' a' w' inv' ?_
    have hu := (mem_ready.1 hj).1
    have := unl_set hu hjn
    omega
theorem lookS_cons (i : Nat) (S : Spec) (acc : List (Nat × Spec)) (j : Nat) : lookS ((i, S) :: acc) j = if i = j then some S else lookS acc j := by
  by_cases h : i = j
  · subst h; simp [lookS]
  · simp [lookS, h, beq_ne h]
theorem chain_elim {F : List (Nat × Spec) → Prop} (hn : n ≤ l.length) (hss : n ≤ ss.length) : ∀ (m k : Nat) (acc : List (Nat × Spec)), k + m = n → (∀ j, lookS acc j ≠ none → j < k) →
    chain P N l.toArray ρ0 I L F ((l.take n).drop k) (ss.drop k) k acc → ∃ full, F full ∧ (∀ j, j < k → lookS full j = lookS acc j) ∧
      ∀ i o s, k ≤ i → i < n → l[i]? = some o → ss[i]? = some s → ∃ S acc', lookS full i = some S ∧ duty P N l.toArray (lookS acc') ρ0 I L o s S ∧ ∀ j, j < i → lookS acc' j = lookS full j
  | 0, k, acc, hk, hacc, h => by
    have hnil : (l.take n).drop k = [] := by rw [List.drop_eq_nil_iff, List.length_take]; omega
    rw [hnil, chain] at h
    exact ⟨acc, h, fun _ _ => rfl, fun i o s h1 h2 => by omega⟩
  | m + 1, k, acc, hk, hacc, h => by
    have hkl : k < (l.take n).length := by rw [List.length_take]; omega
    have hks : k < ss.length := by omega
    rw [List.drop_eq_getElem_cons hkl, List.drop_eq_getElem_cons hks, chain] at h
    obtain ⟨S, hd, hr⟩ := h
    obtain ⟨full, hF, hold, hnew⟩ := chain_elim hn hss m (k + 1) ((k, S) :: acc) (by omega) (fun j hj => by
      rw [lookS_cons] at hj
      by_cases e : k = j
      · omega
      · rw [if_neg e] at hj; have := hacc j hj; omega) hr
    refine ⟨full, hF, fun j hj => ?_, fun i o s h1 h2 h3 h4 => ?_⟩
    · rw [hold j (by omega), lookS_cons, if_neg (by omega)]
    · by_cases e : i = k
      · subst e
        have e1 : (l.take n)[i] = o := by
          have : (l.take n)[i]? = some o := by rw [List.getElem?_take, if_pos h2]; exact h3
          rw [List.getElem?_eq_getElem hkl] at this
          exact Option.some.inj this
        have e2 : ss[i] = s := by rw [List.getElem?_eq_getElem hks] at h4; exact Option.some.inj h4
        rw [e1, e2] at hd
        refine ⟨S, acc, ?_, hd, fun j hj => ?_⟩
        · rw [hold i (by omega), lookS_cons, if_pos rfl]
        · rw [hold j (by omega), lookS_cons, if_neg (by omega)]
      · exact hnew i o s (by omega) h2 h3 h4
/-- A REGION THAT DRAWS ITS ORDER: n: how many operations stand ahead of the tail that goes in the text's order; ss: of each of these, its operands that the region itself fills, and by which operation. -/
theorem wpS.draw {Q : Exit → Env → Im → Lh → Prop} {id : Nat} (hm : P.follows .mixedOrders = true) (n : Nat) (ss : List (List (Nat × Nat)))
    (hN : dstOk N l = true) (hB : phiOk l.toArray n ss = true) (hss : Nat.ble n ss.length = true)
    (hch : chain P N l.toArray ρ0 I L (fun acc => ∀ J, Le I J → finE J (lookS acc) (fun ρ L' => wpL P C N l.toArray Q (l.drop n) ρ J L') (l.take n) 0 ρ0 L) (l.take n) ss 0 []) :
    wpS P C N (.region id l.toArray true) Q ρ0 I L := fun a w ha hs => by
  have hB0 := hB
  simp only [phiOk, Bool.and_eq_true, Bool.or_eq_true] at hB
  obtain ⟨⟨⟨⟨⟨hle, hback⟩, hok⟩, hdst⟩, htail⟩, hseq⟩ := hB
  have hle' : n ≤ l.length := by simpa using Nat.le_of_ble_eq_true hle
  obtain ⟨full, hfin, _, hduty⟩ := chain_elim hle' (Nat.le_of_ble_eq_true hss) n 0 [] (by omega) (fun j hj => absurd rfl hj) (by simpa using hch)
  have hd : ∀ i o s, i < n → l[i]? = some o → ss[i]? = some s → ∃ S, lookS full i = some S ∧ duty P N l.toArray (lookS full) ρ0 I L o s S := fun i o s hi ho hsi => by
    obtain ⟨S, acc', h1, h2, h3⟩ := hduty i o s (Nat.zero_le _) hi ho hsi
    have hoi := List.all_eq_true.1 hok i (List.mem_range.2 hi)
    unfold opOk at hoi
    have ho' : l.toArray[i]? = some o := by simpa using ho
    simp only [ho', hsi, Bool.and_eq_true] at hoi
    have hback' : ∀ j, Region.waitsFor .any l.toArray i j = true → j < i := fun j hw => by
      obtain ⟨e, he, hb, heq⟩ := waits_mem ho' hw
      have hil : i < l.toArray.size := (Array.getElem?_eq_some_iff.1 ho').1
      have h4 := List.all_eq_true.1 hback i (List.mem_range.2 hil)
      simp only [ho', Array.all_eq_true_iff_forall_mem] at h4
      have h5 := h4 e he
      rw [hb] at h5
      have : e.on < i := by simpa [Nat.blt_eq] using h5
      omega
    refine ⟨S, h1, duty_congr h2 (fun t ht j hj => ?_) (fun g w hg => ?_)⟩
    · have h6 := List.all_eq_true.1 hoi.1.2 t ht
      unfold readOk at h6
      simp only [hj, Bool.and_eq_true] at h6
      exact h3 j (hback' j h6.2)
    · have h6 := hoi.2
      rw [hg] at h6
      simp only [Bool.and_eq_true] at h6
      exact h3 g (hback' g h6.2)
  have hs' : St C I L { w with drawn := w.drawn + 1 } := ⟨⟨hs.mem.im, hs.mem.loc, hs.mem.sep, hs.mem.nodup⟩, ⟨hs.chg.os, hs.chg.tape, hs.chg.output, hs.chg.size, hs.chg.block⟩, hs.own, hs.im0, hs.new⟩
  refine wp_region_any hm ?_
  have inv0 : PInv C N n n w.heap.size l.toArray (lookS full) ρ0 I L (Array.replicate l.toArray.size false) I (fun _ => undef) (fun _ => 0) a { w with drawn := w.drawn + 1 } := by
    have hnl : ∀ j, (Array.replicate l.toArray.size false).getD j false = true → False := fun j hl => by rw [getD_replicate_false] at hl; cases hl
    refine ⟨⟨by simp, fun j oj _ hl => (hnl j hl).elim, fun t _ ht => getD_in (by simpa using ht) (getD_replicate_false _ _)⟩, Le.refl _, hs', Nat.le_refl _, fun p hp => lt_of_get (hs.mem.loc p hp), hs.chg.size,
      fun j _ hl => (hnl j hl).elim, fun j k _ _ hl => (hnl j hl).elim, fun j _ hl => (hnl j hl).elim, ha.defers, ha.size, fun j d _ hl => (hnl j hl).elim, fun t v hv _ => ha.tmp t v hv⟩
  have hunl : unl (Array.replicate l.toArray.size false) n = n := by
    have key : ∀ k, k ≤ l.toArray.size → unl (Array.replicate l.toArray.size false) k = k := by
      intro k
      induction k with
      | zero => intro _; rfl
      | succ k ih =>
        intro hk
        rw [unl, ih (by omega), if_pos (getD_in (by simp at hk ⊢; omega) (getD_replicate_false _ _))]
    exact key n (by simpa using hle')
  have hmain := wpAny_phi (C := C) (n0 := w.heap.size) (Q' := liftQ C N Q) hN hback (fun i hi => List.all_eq_true.1 hok i (List.mem_range.2 hi)) hdst hle'
    (by rcases htail with h | h
        · exact .inl (by simpa using h)
        · exact .inr h) (by simpa using hseq) hd
    (fun listed J vs bs a' w' inv hall => by
      obtain ⟨ρ', L', h1, h2, h3⟩ := finE_elim inv hall (l.take n) 0 ρ0 L (fun j => by simp) (Nat.zero_le _)
        (fun t v hv hno => inv.tmpO t v hv (fun j hj _ => hno j (Nat.zero_le _) hj)) inv.st (fun p hp => .inl hp) (hfin J inv.le)
      have hNd : dstOk N (l.drop n) = true := by
        simp only [dstOk, List.all_eq_true] at hN ⊢
        exact fun o ho => hN o (List.mem_of_mem_drop ho)
      exact h3 hNd a' w' h1 h2)
    n _ _ _ _ _ _ inv0 hunl
  rw [show n + (l.length - n) = l.toArray.size by simp; omega] at hmain
  exact hmain
end phi
end Go.Fl
