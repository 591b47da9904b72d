import Derived.Test.YtlohppddhbimnaaDoorAbC
/- Regions that draw their order; results. -/
set_option linter.unusedVariables false
namespace Go.Ab
open Go.Fl Go.RowKit
open Rep (rep)
def lookR (acc : List (Nat × AV)) (j : Nat) : Option AV :=
  match acc with
  | [] => none
  | (i, S) :: r => bif Nat.beq i j then some S else lookR r j
/-- What an operation's operands hold: out of the region's operations, or as it was ahead of them. -/
def envOf (σ0 : AEnv) (acc : List (Nat × AV)) (s : List (Nat × Nat)) : List Nat → AEnv
  | [] => []
  | t :: ts =>
    match (match srcOf s t with | none => lookA σ0 t | some j => lookR acc j) with
    | some a => (t, a) :: envOf σ0 acc s ts
    | none => envOf σ0 acc s ts
def dutyA (P : Program) (N : Nat) (C : Ctx) (σ0 : AEnv) (H : AHeap) (acc : List (Nat × AV)) (o : Oper) (s : List (Nat × Nat)) (r : AV) : Prop :=
  match o.guard with
  | none => OpP P N C o (envOf σ0 acc s (opTmps o)) H (fun r' => r' = r)
  | some (g, want) => ∃ b c, lookR acc g = some (.v b) ∧ r = .opt (b == want) c ∧ (b = want → OpP P N C o (envOf σ0 acc s (opTmps o)) H (fun r' => r' = c))
def chainA (P : Program) (N : Nat) (C : Ctx) (σ0 : AEnv) (H : AHeap) (F : List (Nat × AV) → Prop) : List Oper → List (List (Nat × Nat)) → Nat → List (Nat × AV) → Prop
  | [], _, _, acc => F acc
  | o :: os, s :: ss, k, acc => ∃ r, dutyA P N C σ0 H acc o s r ∧ chainA P N C σ0 H F os ss (k + 1) ((k, r) :: acc)
  | _, [], _, _ => False
def finA (acc : List (Nat × AV)) : List Oper → Nat → AEnv → AEnv
  | o :: os, k, σ =>
    match o.dst, lookR acc k with
    | some d, some r => finA acc os (k + 1) ((d, r) :: σ)
    | _, _ => finA acc os (k + 1) σ
  | [], _, σ => σ
def specOf (r : AV) : Fl.Spec := .val (fun v J => RepV J r v) (fun v I J h hle => h.mono hle)
def accOf (acc : List (Nat × AV)) : List (Nat × Fl.Spec) := acc.map fun p => (p.1, specOf p.2)
theorem lookS_accOf : ∀ (acc : List (Nat × AV)) (j : Nat), lookS (accOf acc) j = (lookR acc j).map specOf
  | [], j => rfl
  | (i, r) :: acc, j => by
    simp only [accOf, List.map_cons, lookS, lookR]
    cases Nat.beq i j with
    | true => rfl
    | false => simpa [accOf] using lookS_accOf acc j
theorem bind_of {C : Ctx} {σ0 : AEnv} {H : AHeap} {acc : List (Nat × AV)} {s : List (Nat × Nat)} {ρ0 ρ : Env} {I J : Im} {L : Lh} (hs : RSt C I L σ0 H ρ0) (hle : Le I J) (G : Prop) : ∀ (ts : List Nat),
    ((∀ t a, lookA (envOf σ0 acc s ts) t = some a → ∃ u, Fl.look ρ t = some u ∧ RepV J a u) → G) → bindAll (lookS (accOf acc)) s ρ0 ρ J ts G
  | [], h => h (fun t a ht => by simp [envOf, lookA] at ht)
  | t :: ts, h => by
    simp only [bindAll]
    cases hsrc : srcOf s t with
    | none =>
      intro hlk
      refine bind_of hs hle G ts fun h2 => h fun t' a ht => ?_
      simp only [envOf, hsrc] at ht
      cases h0 : lookA σ0 t with
      | none => simp only [h0] at ht; exact h2 t' a ht
      | some b =>
        simp only [h0] at ht
        rw [lookA_cons] at ht
        by_cases e : t = t'
        · subst e; simp at ht; subst ht
          obtain ⟨u, h3, h4⟩ := hs.env t _ h0
          exact ⟨u, hlk.trans h3, h4.mono hle⟩
        · rw [if_neg e] at ht; exact h2 t' a ht
    | some j =>
      simp only [lookS_accOf]
      cases hj : lookR acc j with
      | none => simp
      | some r =>
        simp only [Option.map_some, specOf]
        intro v hv hr
        refine bind_of hs hle G ts fun h2 => h fun t' a ht => ?_
        simp only [envOf, hsrc, hj] at ht
        rw [lookA_cons] at ht
        by_cases e : t = t'
        · subst e; simp at ht; subst ht; exact ⟨v, hv, hr⟩
        · rw [if_neg e] at ht; exact h2 t' a ht
theorem duty_of {P : Program} {N : Nat} {C : Ctx} {ops : Array Oper} {σ0 : AEnv} {H : AHeap} {acc : List (Nat × AV)} {ρ0 : Env} {I : Im} {L : Lh} {o : Oper} {s : List (Nat × Nat)} {r : AV} (hs : RSt C I L σ0 H ρ0)
    (h : dutyA P N C σ0 H acc o s r) : duty P N ops (lookS (accOf acc)) ρ0 I L o s (specOf r) := by
  intro J hle ρ
  refine bind_of hs hle _ _ fun henv => ?_
  have hR : RSt C J L (envOf σ0 acc s (opTmps o)) H ρ := ⟨henv, hs.heap.mono hle, hs.im0.trans hle⟩
  unfold dutyA at h
  cases hg : o.guard with
  | none =>
    simp only [hg] at h
    exact OpX.monoLe (h ρ J L hR) fun v J' X _ ⟨h1, r', h2, h3⟩ => ⟨h1, h3 ▸ h2⟩
  | some p =>
    obtain ⟨g, want⟩ := p
    simp only [hg] at h
    obtain ⟨b, c, h1, rfl, h2⟩ := h
    intro v hv
    rw [lookS_accOf, h1] at hv
    simp only [Option.map_some, specOf, Fl.Spec.holds] at hv
    obtain ⟨cs, rfl, rfl⟩ := hv
    refine ⟨fun e => ?_, fun hne => ⟨?_, fun o e => by cases e⟩⟩
    · have e' : b = want := by simpa [asV, Rep.agg] using e
      exact OpX.monoLe (h2 e' ρ J L hR) fun v J' X _ ⟨h3, r', h4, h5⟩ => ⟨h3, fun _ => h5 ▸ h4⟩
    · have hb : b ≠ want := hne b rfl
      exact fun hc => absurd (by simpa using hc) hb
theorem finE_of {C : Ctx} {H : AHeap} {acc : List (Nat × AV)} {J : Im} {G : Env → Lh → Prop} : ∀ (os : List Oper) (k : Nat) (σ : AEnv) (ρ : Env) (L : Lh), RSt C J L σ H ρ →
    (∀ i o, os[i]? = some o → ∃ d r, o.dst = some d ∧ lookR acc (k + i) = some r) → (∀ ρ', RSt C J L (finA acc os k σ) H ρ' → G ρ' L) → finE J (lookS (accOf acc)) G os k ρ L
  | [], k, σ, ρ, L, hs, _, h => h ρ hs
  | o :: os, k, σ, ρ, L, hs, hd, h => by
    obtain ⟨d, r, h1, h2⟩ := hd 0 o rfl
    simp only [finE, h1, lookS_accOf]
    simp only [Nat.add_zero] at h2
    rw [h2]
    simp only [Option.map_some, specOf]
    intro v hv
    refine finE_of os (k + 1) ((d, r) :: σ) _ L (hs.put (Le.refl J) hv hs.heap) (fun i o' ho => ?_) (fun ρ' h' => h ρ' ?_)
    · obtain ⟨d', r', h3, h4⟩ := hd (i + 1) o' (by simpa using ho)
      exact ⟨d', r', h3, by rw [show k + 1 + i = k + (i + 1) by omega]; exact h4⟩
    · simpa only [finA, h1, h2] using h'
theorem chain_of {P : Program} {N : Nat} {C : Ctx} {ops : Array Oper} {σ0 : AEnv} {H : AHeap} {ρ0 : Env} {I : Im} {L : Lh} {F : List (Nat × AV) → Prop} {F' : List (Nat × Fl.Spec) → Prop} (hs : RSt C I L σ0 H ρ0) :
    ∀ (os : List Oper) (ss : List (List (Nat × Nat))) (k : Nat) (acc : List (Nat × AV)), (∀ i, i < k → (lookR acc i).isSome) → chainA P N C σ0 H F os ss k acc →
      (∀ acc', (∀ i, i < k + os.length → (lookR acc' i).isSome) → F acc' → F' (accOf acc')) → chain P N ops ρ0 I L F' os ss k (accOf acc)
  | [], ss, k, acc, hk, h, hF => by
    have hc : F acc := by cases ss <;> exact h
    cases ss <;> exact hF acc (by simpa using hk) hc
  | o :: os, [], k, acc, _, h, _ => h.elim
  | o :: os, s :: ss, k, acc, hk, h, hF => by
    obtain ⟨r, h1, h2⟩ := h
    refine ⟨specOf r, duty_of hs h1, chain_of hs os ss (k + 1) ((k, r) :: acc) (fun i hi => ?_) h2 (fun acc' h3 => hF acc' (fun i hi => h3 i (by simp only [List.length_cons] at hi; omega)))⟩
    simp only [lookR]
    by_cases e : k = i
    · subst e; simp
    · rw [beq_ne e]; exact hk i (by omega)
theorem dst_of_ok {ops : Array Oper} {n : Nat} {ss : List (List (Nat × Nat))} (h : phiOk ops n ss = true) {i : Nat} (hi : i < n) : ∃ o d, ops[i]? = some o ∧ o.dst = some d := by
  simp only [phiOk, Bool.and_eq_true] at h
  have h1 := h.1.1.1.2
  have h2 := List.all_eq_true.1 h1 i (List.mem_range.2 hi)
  unfold opOk at h2
  split at h2
  · rename_i o s ho hss
    simp only [Bool.and_eq_true] at h2
    obtain ⟨d, hd⟩ := Option.isSome_iff_exists.1 h2.1.1
    exact ⟨o, d, ho, hd⟩
  · cases h2
section
variable {P : Program} {C : Ctx} {N : Nat} {Q : Exit → AEnv → AHeap → Prop} {σ : AEnv} {H : AHeap}
theorem wpA.draw {id : Nat} {l : List Oper} (hm : P.follows .mixedOrders = true) (n : Nat) (ss : List (List (Nat × Nat)))
    (hN : dstOk N l = true) (hB : phiOk l.toArray n ss = true) (hss : Nat.ble n ss.length = true)
    (hch : chainA P N C σ H (fun acc => wpB P C N l.toArray Q (l.drop n) (finA acc (l.take n) 0 σ) H) (l.take n) ss 0 []) :
    wpA P C N (.region id l.toArray true) Q σ H := fun ρ I L hs => by
  refine .draw hm n ss hN hB hss ?_
  refine chain_of (acc := []) (F := _) hs _ _ 0 (fun i hi => by omega) hch fun acc hacc hF J hle => ?_
  refine finE_of (l.take n) 0 σ ρ L (hs.mono hle) (fun i o ho => ?_) (fun ρ' h' => hF ρ' J L h')
  have hi : i < n := by
    have := (List.getElem?_eq_some_iff.1 ho).1
    simp at this; omega
  obtain ⟨o', d, h1, h2⟩ := dst_of_ok hB hi
  have : o' = o := by
    rw [List.getElem?_take, if_pos hi] at ho
    have h1' : l[i]? = some o' := by simpa using h1
    rw [h1'] at ho; exact Option.some.inj ho
  subst this
  have hlen : i < (l.take n).length := (List.getElem?_eq_some_iff.1 ho).1
  obtain ⟨r, hr⟩ := Option.isSome_iff_exists.1 (hacc i (by omega))
  exact ⟨d, r, h2, by simpa using hr⟩
end

/-! ### Types and results -/
/-- The zero value's cells. -/
class RepZ (α : Type) [Rep α] [Inhabited α] where
  zs : List Value
  zero : ∀ I, rep I (default : α) zs
instance : RepZ Int := ⟨[i64 0], fun _ => ⟨rfl, by decide, by decide⟩⟩
instance : RepZ UInt8 := ⟨[Fl.u8 0], fun _ => rfl⟩
instance : RepZ UInt16 := ⟨[Ab.u16 0], fun _ => rfl⟩
instance : RepZ UInt32 := ⟨[Fl.u32 0], fun _ => rfl⟩
instance : RepZ UInt64 := ⟨[Fl.u64 0], fun _ => rfl⟩
instance : RepZ Bool := ⟨[.bool false], fun _ => rfl⟩
instance : RepZ Str := ⟨[.string ⟨#[]⟩], fun _ => ⟨⟨_, rfl, rfl⟩, by decide⟩⟩
instance : RepZ Unit := ⟨[], fun _ => rfl⟩
instance {α : Type} [Rep α] : RepZ (List α) := ⟨[.slice none 0 0], fun I => ⟨_, rfl, [], Sl.nil I _, rfl⟩⟩
theorem repL_replicate {α : Type} [Rep α] {I : Im} {x : α} {c : List Value} (h : rep I x c) : ∀ n, repL I (List.replicate n x) (List.replicate n c).flatten
  | 0 => rfl
  | n + 1 => by simp only [List.replicate_succ, List.flatten_cons]; exact ⟨c, _, rfl, h, repL_replicate h n⟩
instance {n : Nat} {α : Type} [Rep α] [Inhabited α] [RepZ α] : RepZ (Arr n α) := ⟨(List.replicate n (RepZ.zs α)).flatten, fun I => repL_replicate (RepZ.zero I) n⟩
instance {α β : Type} [Rep α] [Rep β] [Inhabited α] [Inhabited β] [RepZ α] [RepZ β] : RepZ (α × β) := ⟨RepZ.zs α ++ RepZ.zs β, fun I => ⟨_, _, rfl, RepZ.zero I, RepZ.zero I⟩⟩
@[reducible] def RepZ.via {S T : Type} [Rep T] [Inhabited S] [Inhabited T] [RepZ T] (f : S → T) (h : f default = default) : @RepZ S (Rep.via f) _ :=
  letI : Rep S := Rep.via f
  ⟨RepZ.zs T, fun I => by show rep I (f default) _; rw [h]; exact RepZ.zero I⟩
theorem RepF.via {S T : Type} [Rep T] [RepF T] (f : S → T) : @RepF S (Rep.via f) :=
  letI : Rep S := Rep.via f
  ⟨fun {I J x cs} h => RepF.any (α := T) (x := f x) h⟩
/-- How a type of the program stands: as the Lean type's values do. -/
structure TyIs (P : Program) (T : TypeId) (α : Type) [Rep α] [Inhabited α] : Prop where
  size : SizeIs P T (Rep.size α)
  kind : ∃ dd, P.underlying T = some dd ∧ isRow dd = Rep.agg α
  zero : ∃ zs, zerosOf P T = some zs ∧ ∀ I, rep I (default : α) zs
  pos : Rep.size α ≠ 0
theorem TyIs.of {P : Program} {T : TypeId} {α : Type} [Rep α] [Inhabited α] [RepZ α] (h1 : (P.info? T).map (·.size) = some (Rep.size α)) (h2 : (P.underlying T).map isRow = some (Rep.agg α)) (h3 : zerosOf P T = some (RepZ.zs α)) (h4 : Rep.size α ≠ 0) : TyIs P T α :=
  ⟨.of h1, by
    cases h : P.underlying T with
    | none => simp [h] at h2
    | some dd => exact ⟨dd, rfl, by simpa [h] using h2⟩, ⟨_, h3, RepZ.zero⟩, h4⟩
def FinRA (P : Program) (rv : ResultVar) (C : Ctx) (σ : AEnv) (H : AHeap) (a : AV) : Prop := ∀ ρ I L, RSt C I L σ H ρ → ∃ v, FinR P rv ρ I L v ∧ RepV I a v
section
variable {P : Program} {C : Ctx} {σ : AEnv} {H : AHeap}
theorem FinRA.tmp {t : Nat} {a : AV} (h : lookA σ t = some a) : FinRA P (.tmp t) C σ H a := fun ρ I L hs => by
  obtain ⟨u, h1, h2⟩ := hs.env t a h
  exact ⟨u, .tmp h1, h2⟩
theorem asV_one {α : Type} [Rep α] {I : Im} {x : α} {cs : List Value} (h : rep I x cs) (hg : Rep.agg α = false) : ∃ v, cs = [v] ∧ asV (Rep.agg α) cs = v := by
  have h1 := Rep.len h
  rw [Rep.one hg] at h1
  obtain ⟨v, rfl⟩ := List.length_eq_one_iff.1 h1
  exact ⟨v, rfl, by rw [hg]; rfl⟩
theorem FinRA.cell {t b : Nat} {T : TypeId} {α : Type} {r : Rep α} {i : Inhabited α} {x : α} {g : Bool} {F : Bool × Blk → AHeap} (ty : TyIs P T α) (h : lookA σ t = some (.ln (ptr b 0) (Lens.id (α := α)))) (hH : Hole H (g, .ob (ptr b 0) x) F) :
    FinRA P (.cell t T) C σ H (.v x) := fun ρ I L hs => by
  obtain ⟨u, h1, b', hb, rfl⟩ := hs.env t _ h
  cases hb
  obtain ⟨i, X, h2, h3, _⟩ := hH.get hs.heap
  obtain ⟨b2, T2, cs, hb2, rfl, h5⟩ := h3.1
  cases hb2
  obtain ⟨dd, hd1, hd2⟩ := ty.kind
  refine ⟨asV (Rep.agg α) cs, ?_, cs, h5, rfl⟩
  cases hag : Rep.agg α with
  | true => exact .cellA i hd1 (hd2.trans hag) (by rw [Rep.len h5]; exact ty.size) (by simpa [Lens.id] using h1) h2
  | false =>
    obtain ⟨v, rfl, hv⟩ := asV_one h5 hag
    exact .cellS i hd1 (hd2.trans hag) (by simpa [Lens.id] using h1) h2
variable {fn : Func} {q q2 q3 : ResultVar} {a b c : AV}
theorem FinA.r0 (h : fn.results = #[]) : FinA P fn C σ H (.raw (.tuple #[])) := fun ρ I L hs => ⟨_, .r0 h, rfl⟩
theorem FinA.r1 (h : fn.results = #[q]) (h1 : FinRA P q C σ H a) : FinA P fn C σ H a := fun ρ I L hs => by
  obtain ⟨v, k1, k2⟩ := h1 ρ I L hs
  exact ⟨v, .r1 h k1, k2⟩
theorem FinA.r2 (h : fn.results = #[q, q2]) (h1 : FinRA P q C σ H a) (h2 : FinRA P q2 C σ H b) : FinA P fn C σ H (.t2 a b) := fun ρ I L hs => by
  obtain ⟨v, k1, k2⟩ := h1 ρ I L hs
  obtain ⟨v2, l1, l2⟩ := h2 ρ I L hs
  exact ⟨_, .r2 h k1 l1, v, v2, rfl, k2, l2⟩
theorem FinA.r3 (h : fn.results = #[q, q2, q3]) (h1 : FinRA P q C σ H a) (h2 : FinRA P q2 C σ H b) (h3 : FinRA P q3 C σ H c) : FinA P fn C σ H (.t3 a b c) := fun ρ I L hs => by
  obtain ⟨v, k1, k2⟩ := h1 ρ I L hs
  obtain ⟨v2, l1, l2⟩ := h2 ρ I L hs
  obtain ⟨v3, m1, m2⟩ := h3 ρ I L hs
  exact ⟨_, .r3 h k1 l1 m1, v, v2, v3, rfl, k2, l2, m2⟩
end
end Go.Ab
