import Derived.Test.YtlohppddhbimnaaDoorAbH
/- Regions that draw their order, of operations that turn no own memory at any time, and of a chain of others, each of which waits for the one ahead of it. -/
set_option linter.unusedVariables false
namespace Go.Ab
open Go.Fl Go.RowKit
open Rep (rep)
theorem ne_not {b w : Bool} (h : ¬ b = w) : b = !w := by cases b <;> cases w <;> simp_all
/-- The chain's operations one after the other. -/
def plan (P : Program) (C : Ctx) (N : Nat) (σ0 : AEnv) (accP : List (Nat × AV)) (F : List (Nat × AV) → AHeap → Prop) : List (Nat × Oper × List (Nat × Nat)) → List (Nat × AV) → AHeap → Prop
  | [], cacc, H => F cacc H
  | (i, o, s) :: rest, cacc, H =>
    match o.guard, lookR accP i with
    | none, none => OpH P C N o (envOf σ0 (cacc ++ accP) s (opTmps o)) H (fun r H' => plan P C N σ0 accP F rest ((i, r) :: cacc) H')
    | none, some r0 => OpH P C N o (envOf σ0 (cacc ++ accP) s (opTmps o)) H (fun r H' => r = r0 ∧ plan P C N σ0 accP F rest ((i, r0) :: cacc) H')
    | some (g, want), none => ∃ b, lookR accP g = some (.v b) ∧ (b = want → OpH P C N o (envOf σ0 (cacc ++ accP) s (opTmps o)) H (fun r H' => plan P C N σ0 accP F rest ((i, r) :: cacc) H')) ∧
        (b = (!want) → plan P C N σ0 accP F rest ((i, .any) :: cacc) H)
    | some (g, want), some r0 => ∃ b c, lookR accP g = some (.v b) ∧ r0 = .opt (b == want) c ∧ (b = want → OpH P C N o (envOf σ0 (cacc ++ accP) s (opTmps o)) H (fun r H' => r = c ∧ plan P C N σ0 accP F rest ((i, r0) :: cacc) H')) ∧
        (b = (!want) → plan P C N σ0 accP F rest ((i, r0) :: cacc) H)
/-- What the chain is: its places in the region, in order; each waits for the one ahead; no other operation reads what it makes. -/
def chainOk (ops : Array Oper) (n : Nat) (ss : List (List (Nat × Nat))) (ci : List Nat) : Bool :=
  (List.range ci.length).all (fun k => match ci[k]? with
    | some i => Nat.blt i n && (match k with | 0 => true | k' + 1 => match ci[k']? with | some j => Nat.blt j i && Region.waitsFor .any ops i j | none => false)
    | none => false)
theorem lookR_append (a b : List (Nat × AV)) (j : Nat) : lookR (a ++ b) j = (match lookR a j with | some r => some r | none => lookR b j) := by
  induction a with
  | nil => rfl
  | cons p a ih =>
    simp only [List.cons_append, lookR]
    cases Nat.beq p.1 j with
    | true => rfl
    | false => simpa using ih
theorem lookR_cons (i : Nat) (r : AV) (a : List (Nat × AV)) (j : Nat) : lookR ((i, r) :: a) j = if i = j then some r else lookR a j := by
  by_cases h : i = j
  · subst h; simp [lookR]
  · simp [lookR, h, beq_ne h]
theorem srcOf_mem {s : List (Nat × Nat)} {t j : Nat} (h : srcOf s t = some j) : (t, j) ∈ s := by
  induction s with
  | nil => simp [srcOf] at h
  | cons p s ih =>
    simp only [srcOf] at h
    cases hb : Nat.beq p.1 t with
    | true =>
      simp only [hb, cond_true, Option.some.injEq] at h
      have := Nat.eq_of_beq_eq_true hb
      subst h; subst this; exact List.mem_cons_self
    | false => simp only [hb, cond_false] at h; exact List.mem_cons_of_mem _ (ih h)
theorem envOf_congr {σ0 : AEnv} {a b : List (Nat × AV)} {s : List (Nat × Nat)} (h : ∀ t j, srcOf s t = some j → lookR a j = lookR b j) : ∀ ts, envOf σ0 a s ts = envOf σ0 b s ts
  | [] => rfl
  | t :: ts => by
    simp only [envOf]
    cases hs : srcOf s t with
    | none => simp only [envOf_congr h ts]
    | some j => simp only [h t j hs, envOf_congr h ts]
theorem envOf_look {σ0 : AEnv} {acc : List (Nat × AV)} {s : List (Nat × Nat)} : ∀ {ts : List Nat} {t : Nat} {a : AV}, lookA (envOf σ0 acc s ts) t = some a → t ∈ ts ∧ (match srcOf s t with | none => lookA σ0 t | some j => lookR acc j) = some a
  | [], t, a, h => by simp [envOf, lookA] at h
  | u :: ts, t, a, h => by
    simp only [envOf] at h
    split at h
    · rename_i b hb
      rw [lookA_cons] at h
      by_cases e : u = t
      · subst e; simp at h; subst h; exact ⟨List.mem_cons_self, hb⟩
      · rw [if_neg e] at h
        have := envOf_look h
        exact ⟨List.mem_cons_of_mem _ this.1, this.2⟩
    · have := envOf_look h
      exact ⟨List.mem_cons_of_mem _ this.1, this.2⟩
theorem envOf_get {σ0 : AEnv} {acc : List (Nat × AV)} {s : List (Nat × Nat)} {t : Nat} {a : AV} (h : (match srcOf s t with | none => lookA σ0 t | some j => lookR acc j) = some a) : ∀ {ts : List Nat}, t ∈ ts → lookA (envOf σ0 acc s ts) t = some a
  | [], hm => by cases hm
  | u :: ts, hm => by
    by_cases e : u = t
    · subst e
      cases hs : srcOf s u with
      | none => simp only [hs] at h; simp only [envOf, hs, h]; rw [lookA_cons, if_pos rfl]
      | some j => simp only [hs] at h; simp only [envOf, hs, h]; rw [lookA_cons, if_pos rfl]
    · have hm' : t ∈ ts := by
        rcases List.mem_cons.1 hm with h1 | h1
        · exact absurd h1.symm e
        · exact h1
      simp only [envOf]
      split
      · rw [lookA_cons, if_neg e]; exact envOf_get h hm'
      · exact envOf_get h hm'
/-- An operation that turns no own memory, whatever there is. -/
def dutyQ (P : Program) (N : Nat) (C : Ctx) (σ0 : AEnv) (accP : List (Nat × AV)) (o : Oper) (s : List (Nat × Nat)) (r : AV) : Prop := ∀ H, dutyA P N C σ0 H accP o s r
theorem dst_of_ok' {ops : Array Oper} {n : Nat} {ss : List (List (Nat × Nat))} (h : ∀ i, i < n → opOk ops n ss i = true) {i : Nat} (hi : i < n) : ∃ o d, ops[i]? = some o ∧ o.dst = some d := by
  have h2 := h i hi
  unfold opOk at h2
  split at h2
  · rename_i o s ho hss
    simp only [Bool.and_eq_true] at h2
    obtain ⟨d, hd⟩ := Option.isSome_iff_exists.1 h2.1.1
    exact ⟨o, d, ho, hd⟩
  · cases h2
structure CInv (P : Program) (C : Ctx) (N n : Nat) (l : List Oper) (ci : List Nat) (cl : List (Nat × Oper × List (Nat × Nat))) (σ0 : AEnv) (accP : List (Nat × AV)) (F : List (Nat × AV) → AHeap → Prop) (ρ0 : Env) (I : Im)
    (listed : Array Bool) (k : Nat) (cacc : List (Nat × AV)) (H : AHeap) (J : Im) (L : Lh) (vs : Nat → Value) (a : Act) (w : World) : Prop where
  head : HeadInv .any l.toArray n listed
  le : Le I J
  im0 : Le C.I0 J
  st : St C J L w
  heap : repH C.w0.heap.size J H L
  kle : k ≤ ci.length
  ch : ∀ m i, ci[m]? = some i → (listed.getD i false = true ↔ m < k)
  pl : plan P C N σ0 accP F (cl.drop k) cacc H
  keys : ∀ j r, lookR cacc j = some r → j ∈ ci
  prom : ∀ j r r0, lookR cacc j = some r → lookR accP j = some r0 → r = r0
  proL : ∀ j, j ∈ ci → listed.getD j false = true → ∃ r, lookR cacc j = some r
  val : ∀ j, j < n → listed.getD j false = true → ∃ r, lookR (cacc ++ accP) j = some r ∧ RepV J r (vs j)
  defers : a.defers = []
  size : a.tmps.size = N
  tmpI : ∀ j d, j < n → listed.getD j false = true → (l.toArray[j]?).bind (·.dst) = some d → a.tmps[d]? = some (vs j)
  tmpO : ∀ t v, Fl.look ρ0 t = some v → (∀ j, j < n → listed.getD j false = true → (l.toArray[j]?).bind (·.dst) ≠ some t) → a.tmps[t]? = some v
section
variable {P : Program} {C : Ctx} {N n : Nat} {l : List Oper} {ci : List Nat} {cl : List (Nat × Oper × List (Nat × Nat))} {ss : List (List (Nat × Nat))} {σ0 : AEnv} {accP : List (Nat × AV)} {F : List (Nat × AV) → AHeap → Prop} {ρ0 : Env} {I : Im} {L0 : Lh} {H0 : AHeap}
theorem CInv.step {listed : Array Bool} {k : Nat} {cacc : List (Nat × AV)} {H : AHeap} {J : Im} {L : Lh} {vs : Nat → Value} {a : Act} {w : World} {Q' : Exit → Act → World → Prop}
    (h0 : RSt C I L0 σ0 H0 ρ0) (hN : dstOk N l = true) (hok : ∀ i, i < n → opOk l.toArray n ss i = true) (hdst : dstsOk l.toArray n = true) (hch : chainOk l.toArray n ss ci = true)
    (hcl : ∀ (m i : Nat) (o : Oper) (s : List (Nat × Nat)), ci[m]? = some i → l[i]? = some o → ss[i]? = some s → cl[m]? = some (i, o, s)) (hnd : ci.Nodup)
    (hp : ∀ i o s, i < n → i ∉ ci → l[i]? = some o → ss[i]? = some s → ∃ r, lookR accP i = some r ∧ dutyQ P N C σ0 accP o s r)
    (inv : CInv P C N n l ci cl σ0 accP F ρ0 I listed k cacc H J L vs a w) {i : Nat} (hr : i ∈ Region.ready .any l.toArray listed) (hin : i < n)
    {K : Act → World → Prop} (hK : ∀ k cacc H J L vs a' w, CInv P C N n l ci cl σ0 accP F ρ0 I (listed.setIfInBounds i true) k cacc H J L vs a' w → K a' w) :
    wpOp P l.toArray Q' i K a w := by
  obtain ⟨hun, o, ho, hall⟩ := mem_ready.1 hr
  have hol : l[i]? = some o := by simpa using ho
  have hok' := hok i hin
  unfold opOk at hok'
  simp only [ho] at hok'
  cases hs : ss[i]? with
  | none => simp [hs] at hok'
  | some s =>
  simp only [hs, Bool.and_eq_true] at hok'
  obtain ⟨⟨hdsome, hreads⟩, hguard⟩ := hok'
  obtain ⟨d, hod⟩ := Option.isSome_iff_exists.1 hdsome
  have hdN : d < N := by
    have := List.all_eq_true.1 hN o (List.mem_of_getElem? hol)
    rw [hod] at this
    simpa [Nat.blt_eq] using this
  have hlisted : ∀ j, Region.waitsFor .any l.toArray i j = true → listed.getD j false = true := fun j hw => by
    obtain ⟨e, he, hb, heq⟩ := waits_mem ho hw
    exact heq ▸ hall e he hb
  have hilt : i < listed.size := by
    rcases Nat.lt_or_ge i listed.size with h' | h'
    · exact h'
    · simp [Array.getElem?_eq_none h'] at hun
  have hiun : listed.getD i false = false := getD_both hun
  have hnot : ∀ j, Region.waitsFor .any l.toArray j i = true → listed.getD j false = true → False := fun j hw hl => by
    obtain ⟨oj, hoj, e, he, hb, heq⟩ := Region.waitsFor_spec hw
    have := inv.head.closed j oj hoj hl e he hb
    rw [heq, hiun] at this
    cases this
  have hch1 := hch
  unfold chainOk at hch1
  let g : Nat → Option Value := fun t => match srcOf s t with | some j => some (vs j) | none => Fl.look ρ0 t
  have hsrcl : ∀ t ∈ opTmps o, ∀ j, srcOf s t = some j → j < n ∧ listed.getD j false = true ∧ (l.toArray[j]?).bind (·.dst) = some t := fun t ht j hj => by
    have hro := List.all_eq_true.1 hreads t ht
    unfold readOk at hro
    simp only [hj, Bool.and_eq_true, beq_iff_eq] at hro
    exact ⟨by simpa [Nat.blt_eq] using hro.1.1, hlisted j hro.2, hro.1.2⟩
  have hfits : Fits N (mkEnv g (opTmps o)) a := by
    refine ⟨inv.defers, inv.size, fun t v hv => ?_⟩
    obtain ⟨hmem, hg⟩ := look_mkEnv hv
    cases hsrc : srcOf s t with
    | some j =>
      obtain ⟨h1, h2, h3⟩ := hsrcl t hmem j hsrc
      have hgv : vs j = v := by simpa [g, hsrc] using hg
      rw [← hgv]
      exact inv.tmpI j t h1 h2 h3
    | none =>
      have hro := List.all_eq_true.1 hreads t hmem
      unfold readOk at hro
      simp only [hsrc] at hro
      refine inv.tmpO t v (by simpa [g, hsrc] using hg) fun j hj hl hdj => ?_
      have h1 := List.all_eq_true.1 hro j (List.mem_range.2 hj)
      simp only [hdj, beq_self_eq_true, Bool.not_true, Bool.false_or, Bool.or_eq_true, beq_iff_eq] at h1
      rcases h1 with h1 | h1
      · subst h1; rw [hiun] at hl; cases hl
      · exact hnot j h1 hl
  have henv : ∀ t b, lookA (envOf σ0 (cacc ++ accP) s (opTmps o)) t = some b → ∃ u, Fl.look (mkEnv g (opTmps o)) t = some u ∧ RepV J b u := fun t b hb => by
    obtain ⟨hmem, hb2⟩ := envOf_look hb
    cases hsrc : srcOf s t with
    | some j =>
      simp only [hsrc] at hb2
      obtain ⟨h1, h2, _⟩ := hsrcl t hmem j hsrc
      obtain ⟨r, h3, h4⟩ := inv.val j h1 h2
      rw [hb2] at h3
      cases h3
      exact ⟨vs j, by rw [look_mkEnv_mem hmem]; simp [g, hsrc], h4⟩
    | none =>
      simp only [hsrc] at hb2
      obtain ⟨u, h1, h2⟩ := h0.env t b hb2
      exact ⟨u, by rw [look_mkEnv_mem hmem]; simpa [g, hsrc] using h1, h2.mono inv.le⟩
  have hR : RSt C J L (envOf σ0 (cacc ++ accP) s (opTmps o)) H (mkEnv g (opTmps o)) := ⟨henv, inv.heap, inv.im0⟩
  have hput : ∀ j, j ≠ i → (listed.setIfInBounds i true).getD j false = listed.getD j false := fun j hj => getD_set_ne false (Ne.symm hj)
  have hdne : ∀ j, j < n → j ≠ i → ∀ d', (l.toArray[j]?).bind (·.dst) = some d' → d' ≠ d := by
    intro j hj hji d' hd' e
    subst e
    have hdi : (l.toArray[i]?).bind (·.dst) = some d' := by rw [ho]; exact hod
    rcases Nat.lt_or_gt_of_ne hji with h1 | h1
    · have := List.all_eq_true.1 (List.all_eq_true.1 hdst i (List.mem_range.2 hin)) j (List.mem_range.2 h1)
      rw [hdi, hd'] at this
      simp at this
    · have := List.all_eq_true.1 (List.all_eq_true.1 hdst j (List.mem_range.2 hj)) i (List.mem_range.2 h1)
      rw [hdi, hd'] at this
      simp at this
  -- what a finished operation does
  have fin : ∀ v J' L' H' k' cacc' w' r, Le J J' → St C J' L' w' → repH C.w0.heap.size J' H' L' → RepV J' r v → lookR (cacc' ++ accP) i = some r → (∀ j, j ≠ i → lookR (cacc' ++ accP) j = lookR (cacc ++ accP) j) → k' ≤ ci.length →
      (∀ m i', ci[m]? = some i' → ((listed.setIfInBounds i true).getD i' false = true ↔ m < k')) → plan P C N σ0 accP F (cl.drop k') cacc' H' → (∀ j r, lookR cacc' j = some r → j ∈ ci) → (∀ j r r0, lookR cacc' j = some r → lookR accP j = some r0 → r = r0) → (∀ j, j ∈ ci → (listed.setIfInBounds i true).getD j false = true → ∃ r, lookR cacc' j = some r) → K (a.put o.dst v) w' := by
    intro v J' L' H' k' cacc' w' r hle hst hH hv hri hrj hk' hch' hpl hkeys hprom hproL
    refine hK k' cacc' H' J' L' (fun j => if j = i then v else vs j) _ _ ⟨inv.head.set hr hin, inv.le.trans hle, inv.im0.trans hle, hst, hH, hk', hch', hpl, hkeys, hprom, hproL, fun j hj hl => ?_, ?_, ?_, fun j d' hj hl hd' => ?_, fun t u hu hno => ?_⟩
    · by_cases hji : j = i
      · subst hji
        exact ⟨r, hri, by simpa using hv⟩
      · rw [hput j hji] at hl
        obtain ⟨q, h1, h2⟩ := inv.val j hj hl
        exact ⟨q, (hrj j hji).trans h1, by simpa [hji] using h2.mono hle⟩
    · rw [hod]; exact inv.defers
    · rw [hod]; simp [Act.put, inv.size]
    · rw [hod]
      by_cases hji : j = i
      · subst hji
        have : d' = d := by rw [ho] at hd'; exact Option.some.inj (hd'.symm.trans hod)
        subst this
        simp [Act.put, inv.size, hdN]
      · rw [hput j hji] at hl
        have hne := hdne j hj hji d' hd'
        simp only [if_neg hji, Act.put, Array.getElem?_setIfInBounds_ne (Ne.symm hne)]
        exact inv.tmpI j d' hj hl hd'
    · rw [hod]
      have hdt : d ≠ t := by
        intro e
        subst e
        exact hno i hin (getD_set_true' hilt) (by rw [ho]; exact hod)
      simp only [Act.put, Array.getElem?_setIfInBounds_ne hdt]
      refine inv.tmpO t u hu fun j hj hl => hno j hj ?_
      by_cases hji : j = i
      · subst hji; rw [hiun] at hl; cases hl
      · rw [hput j hji]; exact hl
  -- the guard
  have hgrd : ∀ gi want, o.guard = some (gi, want) → ∀ b, lookR accP gi = some (.v b) → yielded l.toArray a.tmps gi = some b := fun gi want hg b hb => by
    rw [hg] at hguard
    simp only [Bool.and_eq_true] at hguard
    have hgn : gi < n := by simpa [Nat.blt_eq] using hguard.1
    have hgl := hlisted gi hguard.2
    obtain ⟨r, h1, h2⟩ := inv.val gi hgn hgl
    have hr2 : r = .v b := by
      rw [lookR_append] at h1
      cases hc : lookR cacc gi with
      | some q =>
        rw [hc] at h1
        cases h1
        exact inv.prom gi _ _ hc hb
      | none =>
        rw [hc] at h1
        simp only at h1
        rw [hb] at h1
        exact (Option.some.inj h1).symm
    subst hr2
    obtain ⟨cs, rfl, hvs⟩ := h2
    obtain ⟨og, dg, hog, hdg⟩ := dst_of_ok' hok hgn
    have htg := inv.tmpI gi dg hgn hgl (by rw [hog]; exact hdg)
    rw [hvs] at htg
    unfold yielded
    rw [hog]
    simp only [Option.bind_some, hdg, htg]
    rfl
  unfold wpOp
  simp only [ho]
  by_cases hic : i ∈ ci
  · obtain ⟨m, hm⟩ := List.mem_iff_getElem?.1 hic
    have hmk : ¬ m < k := fun h => by
      have := (inv.ch m i hm).2 h
      rw [hiun] at this; cases this
    have hml : m < ci.length := (List.getElem?_eq_some_iff.1 hm).1
    have hkm : m ≤ k := by
      cases m with
      | zero => omega
      | succ mj =>
        have h1 := List.all_eq_true.1 hch1 (mj + 1) (List.mem_range.2 hml)
        simp only [hm, Bool.and_eq_true] at h1
        cases hj : ci[mj]? with
        | none => simp [hj] at h1
        | some j =>
          simp only [hj, Bool.and_eq_true] at h1
          have := (inv.ch mj j hj).1 (hlisted j h1.2.2)
          omega
    have hmk' : m = k := by omega
    subst hmk'
    have hc := hcl m i o s hm hol hs
    have hdrop : cl.drop m = (i, o, s) :: cl.drop (m + 1) := by
      have hlt := (List.getElem?_eq_some_iff.1 hc).1
      rw [List.drop_eq_getElem_cons hlt]
      congr 1
      rw [List.getElem?_eq_getElem hlt] at hc
      exact Option.some.inj hc
    have hpl := inv.pl
    rw [hdrop, plan] at hpl
    have hch' : ∀ mj i', ci[mj]? = some i' → ((listed.setIfInBounds i true).getD i' false = true ↔ mj < m + 1) := fun mj i' hm' => by
      by_cases e : i' = i
      · subst e
        have hlj := (List.getElem?_eq_some_iff.1 hm').1
        have heq : ci[mj]'hlj = ci[m]'hml := by rw [(List.getElem?_eq_some_iff.1 hm').2, (List.getElem?_eq_some_iff.1 hm).2]
        have : mj = m := by
          rcases Nat.lt_trichotomy mj m with h | h | h
          · exact absurd heq ((List.pairwise_iff_getElem.1 hnd) mj m hlj hml h)
          · exact h
          · exact absurd heq.symm ((List.pairwise_iff_getElem.1 hnd) m mj hml hlj h)
        exact ⟨fun _ => by omega, fun _ => getD_set_true' hilt⟩
      · rw [hput i' e, inv.ch mj i' hm']
        have : mj ≠ m := by
          rintro rfl
          rw [hm] at hm'; exact e (Option.some.inj hm').symm
        omega
    have hkeys : ∀ r, ∀ j q, lookR ((i, r) :: cacc) j = some q → j ∈ ci := fun r j q hq => by
      rw [lookR_cons] at hq
      by_cases e : i = j
      · subst e; exact hic
      · rw [if_neg e] at hq; exact inv.keys j q hq
    have hself : ∀ r, lookR ((i, r) :: cacc ++ accP) i = some r := fun r => by rw [List.cons_append, lookR_cons, if_pos rfl]
    have hoth : ∀ r j, j ≠ i → lookR ((i, r) :: cacc ++ accP) j = lookR (cacc ++ accP) j := fun r j hj => by rw [List.cons_append, lookR_cons, if_neg (Ne.symm hj)]
    have hprom : ∀ r, (∀ r0, lookR accP i = some r0 → r = r0) → ∀ j q r0, lookR ((i, r) :: cacc) j = some q → lookR accP j = some r0 → q = r0 := fun r hr0 j q r0 hq h0 => by
      rw [lookR_cons] at hq
      by_cases e : i = j
      · subst e; rw [if_pos rfl] at hq; cases hq; exact hr0 r0 h0
      · rw [if_neg e] at hq; exact inv.prom j q r0 hq h0
    have hproL : ∀ r, ∀ j, j ∈ ci → (listed.setIfInBounds i true).getD j false = true → ∃ q, lookR ((i, r) :: cacc) j = some q := fun r j hj hl => by
      by_cases e : i = j
      · subst e; exact ⟨r, by rw [lookR_cons, if_pos rfl]⟩
      · rw [hput j (Ne.symm e)] at hl
        obtain ⟨q, hq⟩ := inv.proL j hj hl
        exact ⟨q, by rw [lookR_cons, if_neg e]; exact hq⟩
    have run : ∀ (R : AV → AV), (∀ r r0, lookR accP i = some r0 → R r = r0) → ∀ Z : AV → Prop, (∀ r, Z r → ∀ J' u, RepV J' r u → RepV J' (R r) u) →
        OpH P C N o (envOf σ0 (cacc ++ accP) s (opTmps o)) H (fun r H' => Z r ∧ plan P C N σ0 accP F (cl.drop (m + 1)) ((i, R r) :: cacc) H') → o.wp P a w K Q' := fun R hR0 Z hZ h => by
      refine Yld.wp ((h _ J L hR a w hfits inv.st).mono ?_)
      rintro v w' ⟨J', L', hst, hle, r, H', h1, h2, h3, h4⟩
      exact fin v J' L' H' (m + 1) ((i, R r) :: cacc) w' (R r) hle hst h2 (hZ r h3 _ _ h1) (hself _) (hoth _) (by omega) hch' h4 (hkeys _) (hprom _ (hR0 r)) (hproL _)
    have skipd : ∀ b want r, o.guard.isSome = true → (∀ r0, lookR accP i = some r0 → r = r0) → RepV J r undef → plan P C N σ0 accP F (cl.drop (m + 1)) ((i, r) :: cacc) H → (b : Bool) = !want → K (a.put o.dst undef) w := fun b want r _ hr0 hu hp _ =>
      fin undef J L H (m + 1) ((i, r) :: cacc) w r (Le.refl J) inv.st inv.heap hu (hself r) (hoth r) (by omega) hch' hp (hkeys r) (hprom r hr0) (hproL r)
    cases hg : o.guard with
    | none =>
      rw [if_pos (by simp [Region.wanted, hg])]
      cases hpr : lookR accP i with
      | none =>
        rw [hg, hpr] at hpl
        exact .inl (run (fun r => r) (fun r r0 h => by rw [hpr] at h; cases h) (fun _ => True) (fun _ _ _ _ h => h) (by
          intro ρ' I' L' hs' a' w' ha' hst'
          exact Yld.mono (hpl ρ' I' L' hs' a' w' ha' hst') (fun v w'' ⟨J', L'', q1, q2, r, H', q3, q4, q5⟩ => ⟨J', L'', q1, q2, r, H', q3, q4, trivial, q5⟩)))
      | some r0 =>
        rw [hg, hpr] at hpl
        exact .inl (run (fun _ => r0) (fun r q h => by rw [hpr] at h; exact Option.some.inj h) (fun r => r = r0) (fun r hr _ _ h => hr ▸ h) hpl)
    | some gw =>
      obtain ⟨gi, want⟩ := gw
      cases hpr : lookR accP i with
      | none =>
        rw [hg, hpr] at hpl
        obtain ⟨b, hb, h1, h2⟩ := hpl
        have hy := hgrd gi want hg b hb
        by_cases hbw : b = want
        · rw [if_pos (by simp [Region.wanted, hg, hy, hbw])]
          exact .inl (run (fun r => r) (fun r r0 h => by rw [hpr] at h; cases h) (fun _ => True) (fun _ _ _ _ h => h) (by
            intro ρ' I' L' hs' a' w' ha' hst'
            exact Yld.mono (h1 hbw ρ' I' L' hs' a' w' ha' hst') (fun v w'' ⟨J', L'', q1, q2, r, H', q3, q4, q5⟩ => ⟨J', L'', q1, q2, r, H', q3, q4, trivial, q5⟩)))
        · have hwf : ¬ Region.wanted o (yielded l.toArray a.tmps) = true := by simpa [Region.wanted, hg, hy] using hbw
          rw [if_neg hwf]
          have hbn : b = !want := ne_not hbw
          exact skipd b want .any (by simp [hg]) (fun r0 h => by rw [hpr] at h; cases h) trivial (h2 hbn) hbn
      | some r0 =>
        rw [hg, hpr] at hpl
        obtain ⟨b, c, hb, rfl, h1, h2⟩ := hpl
        have hy := hgrd gi want hg b hb
        by_cases hbw : b = want
        · rw [if_pos (by simp [Region.wanted, hg, hy, hbw])]
          exact .inl (run (fun _ => .opt (b == want) c) (fun r q h => by rw [hpr] at h; exact Option.some.inj h) (fun r => r = c) (fun r hr J' u h _ => hr ▸ h) (h1 hbw))
        · have hwf : ¬ Region.wanted o (yielded l.toArray a.tmps) = true := by simpa [Region.wanted, hg, hy] using hbw
          rw [if_neg hwf]
          have hbn : b = !want := ne_not hbw
          exact skipd b want (.opt (b == want) c) (by simp [hg]) (fun q h => by rw [hpr] at h; exact Option.some.inj h) (fun hc => absurd (by simpa using hc) hbw) (h2 hbn) hbn
  · obtain ⟨r, hri, hd⟩ := hp i o s hin hic hol hs
    have hcn : ∀ j, j ∉ ci → lookR cacc j = none := fun j hj => by
      cases hc : lookR cacc j with
      | none => rfl
      | some q => exact absurd (inv.keys j q hc) hj
    have hself : lookR (cacc ++ accP) i = some r := by rw [lookR_append, hcn i hic]; exact hri
    have hRq : RSt C J L (envOf σ0 accP s (opTmps o)) H (mkEnv g (opTmps o)) := hR.sub fun t b hb => by
      obtain ⟨hmem, hb2⟩ := envOf_look hb
      refine envOf_get ?_ hmem
      cases hsrc : srcOf s t with
      | none => simp only [hsrc] at hb2 ⊢; exact hb2
      | some j =>
        simp only [hsrc] at hb2 ⊢
        rw [lookR_append]
        cases hc : lookR cacc j with
        | none => exact hb2
        | some q => exact congrArg some (inv.prom j q b hc hb2)
    have hproL : ∀ j, j ∈ ci → (listed.setIfInBounds i true).getD j false = true → ∃ q, lookR cacc j = some q := fun j hj hl => by
      have : j ≠ i := by rintro rfl; exact hic hj
      rw [hput j this] at hl; exact inv.proL j hj hl
    have hch' : ∀ mj i', ci[mj]? = some i' → ((listed.setIfInBounds i true).getD i' false = true ↔ mj < k) := fun mj i' hm' => by
      have : i' ≠ i := by rintro rfl; exact hic (List.mem_of_getElem? hm')
      rw [hput i' this]; exact inv.ch mj i' hm'
    have hdH := hd H
    unfold dutyA at hdH
    have run : ∀ (c : AV), OpP P N C o (envOf σ0 accP s (opTmps o)) H (fun r' => r' = c) → (∀ J' u, RepV J' c u → RepV J' r u) → o.wp P a w K Q' := fun c h hcr => by
      refine Yld.wp ((h _ J L hRq a w hfits inv.st.mem).mono ?_)
      rintro v w' ⟨J', X, hc, hle, hn, hm, hX, rfl, r', h1, rfl⟩
      have hst := (inv.st.step hc hle hn hm hX)
      rw [List.nil_append] at hst
      exact fin v J' L H k cacc w' r hle hst (inv.heap.mono hle) (hcr _ _ h1) hself (fun j hj => rfl) inv.kle hch' inv.pl inv.keys inv.prom hproL
    cases hg : o.guard with
    | none =>
      rw [hg] at hdH
      rw [if_pos (by simp [Region.wanted, hg])]
      exact .inl (run r hdH (fun _ _ h => h))
    | some gw =>
      obtain ⟨gi, want⟩ := gw
      rw [hg] at hdH
      obtain ⟨b, c, hb, rfl, h2⟩ := hdH
      have hy := hgrd gi want hg b hb
      by_cases hbw : b = want
      · rw [if_pos (by simp [Region.wanted, hg, hy, hbw])]
        exact .inl (run c (h2 hbw) (fun _ _ h _ => h))
      · have hwf : ¬ Region.wanted o (yielded l.toArray a.tmps) = true := by simpa [Region.wanted, hg, hy] using hbw
        rw [if_neg hwf]
        exact fin undef J L H k cacc w (.opt (b == want) c) (Le.refl J) inv.st inv.heap (fun hc => absurd (by simpa using hc) hbw) hself (fun j hj => rfl) inv.kle hch' inv.pl inv.keys inv.prom hproL
theorem wpAny_C {Q' : Exit → Act → World → Prop} (h0 : RSt C I L0 σ0 H0 ρ0) (hN : dstOk N l = true) (hback : edgesBack l.toArray = true) (hok : ∀ i, i < n → opOk l.toArray n ss i = true) (hdst : dstsOk l.toArray n = true) (hch : chainOk l.toArray n ss ci = true)
    (hcl : ∀ (m i : Nat) (o : Oper) (s : List (Nat × Nat)), ci[m]? = some i → l[i]? = some o → ss[i]? = some s → cl[m]? = some (i, o, s)) (hnd : ci.Nodup)
    (hp : ∀ i o s, i < n → i ∉ ci → l[i]? = some o → ss[i]? = some s → ∃ r, lookR accP i = some r ∧ dutyQ P N C σ0 accP o s r)
    (hle : n ≤ l.length) (htail : n = l.length ∨ (Region.sinkB .any l.toArray n = true ∧ Region.chainB .any l.toArray n = true)) (hseq : Region.seqB .any l.toArray (l.length - n) n (headAll l.length n) = true)
    (hfin : ∀ listed k cacc H J L vs a w, CInv P C N n l ci cl σ0 accP F ρ0 I listed k cacc H J L vs a w → (∀ j, j < n → listed.getD j false = true) → wpList P l.toArray Q' (l.drop n) a w) :
    ∀ (m : Nat) (listed : Array Bool) k cacc H J L vs a w, CInv P C N n l ci cl σ0 accP F ρ0 I listed k cacc H J L vs a w → unl listed n = m → wpAny P .any l.toArray Q' (m + (l.length - n)) listed a w
  | 0, listed, k, cacc, H, J, L, vs, a, w, inv, hm => by
    have hsz : listed.size = l.length := by simpa using inv.head.size
    have hall : ∀ j, j < n → listed.getD j false = true := fun j hj => getD_both' (by omega) (unl_zero hm j hj)
    have heq : listed = headAll l.length n := by
      refine Array.ext (by simp [headAll, hsz]) fun j h1 h2 => ?_
      have e1 : (headAll l.length n)[j]'h2 = Nat.blt j n := by simp [headAll]
      rw [e1]
      by_cases hj : j < n
      · have := hall j hj
        simp [h1] at this
        rw [this]
        exact (Nat.blt_eq ▸ hj : Nat.blt j n = true).symm
      · have := inv.head.tail j (by omega) (by simp; omega)
        simp [h1] at this
        rw [this]
        cases hb : Nat.blt j n
        · rfl
        · exact absurd (Nat.blt_eq ▸ hb : j < n) hj
    have hw := hfin listed k cacc H J L vs a w inv hall
    have h2 := wpAny_of_seq (md := .any) (Q' := Q') (l.drop n) n listed a w (fun j => by simp [List.getElem?_drop]) (by rw [heq]; simpa using hseq) hw
    simpa using h2
  | m + 1, listed, k, cacc, H, J, L, vs, a, w, inv, hm => by
    have hsz : listed.size = l.length := by simpa using inv.head.size
    obtain ⟨i, hin, hi, hlt⟩ := unl_pos hm
    have hr := ready_of_least hback (by simpa using inv.head.size) hi hlt
    rw [show m + 1 + (l.length - n) = (m + (l.length - n)) + 1 by omega]
    refine ⟨fun h0 => (by rw [h0] at hr; cases hr), fun j hj => ?_⟩
    have hjn : j < n := by
      rcases Nat.lt_or_ge j n with h | h
      · exact h
      · rcases htail with ht | ⟨hs, hc⟩
        · obtain ⟨_, o, ho, _⟩ := mem_ready.1 hj
          have := (Array.getElem?_eq_some_iff.1 ho).1
          simp at this
          omega
        · have hnl : n < l.toArray.size := by
            obtain ⟨_, o, ho, _⟩ := mem_ready.1 hj
            have := (Array.getElem?_eq_some_iff.1 ho).1
            omega
          exact absurd hj (tail_waits hs hc hnl inv.head _ i rfl hin hi j h)
    refine inv.step h0 hN hok hdst hch hcl hnd hp hj hjn fun k' cacc' H' J' L' vs' a' w' inv' => ?_
    refine wpAny_C h0 hN hback hok hdst hch hcl hnd hp hle htail hseq hfin m _ k' cacc' H' J' L' vs' a' w' inv' ?_
    have hu := (mem_ready.1 hj).1
    have := unl_set hu hjn
    omega
end
/-- The pure operations one after the other; of those of the chain the results may be foretold. -/
def chainP (P : Program) (N : Nat) (C : Ctx) (σ0 : AEnv) (ci : List Nat) (F : List (Nat × AV) → Prop) : List Oper → List (List (Nat × Nat)) → Nat → List (Nat × AV) → Prop
  | [], _, _, acc => F acc
  | o :: os, s :: ss, k, acc => bif ci.contains k then chainP P N C σ0 ci F os ss (k + 1) acc ∨ ∃ r, chainP P N C σ0 ci F os ss (k + 1) ((k, r) :: acc) else ∃ r, dutyQ P N C σ0 acc o s r ∧ chainP P N C σ0 ci F os ss (k + 1) ((k, r) :: acc)
  | _, [], _, _ => False
def clOf (l : List Oper) (ss : List (List (Nat × Nat))) : List Nat → List (Nat × Oper × List (Nat × Nat))
  | [] => []
  | i :: r => match l[i]?, ss[i]? with
    | some o, some s => (i, o, s) :: clOf l ss r
    | _, _ => clOf l ss r
theorem clOf_get {l : List Oper} {ss : List (List (Nat × Nat))} : ∀ (ci : List Nat), (∀ i ∈ ci, ∃ o s, l[i]? = some o ∧ ss[i]? = some s) → ∀ (m i : Nat) (o : Oper) (s : List (Nat × Nat)), ci[m]? = some i → l[i]? = some o → ss[i]? = some s → (clOf l ss ci)[m]? = some (i, o, s)
  | [], _, m, i, o, s, h, _, _ => by simp at h
  | j :: r, h0, m, i, o, s, h, h1, h2 => by
    obtain ⟨o', s', h3, h4⟩ := h0 j List.mem_cons_self
    simp only [clOf, h3, h4]
    cases m with
    | zero =>
      simp only [List.getElem?_cons_zero, Option.some.injEq] at h ⊢
      subst h
      rw [h1] at h3; rw [h2] at h4
      cases h3; cases h4; rfl
    | succ m => simpa using clOf_get r (fun i hi => h0 i (List.mem_cons_of_mem _ hi)) m i o s (by simpa using h) h1 h2
theorem dutyA_congr {P : Program} {N : Nat} {C : Ctx} {σ0 : AEnv} {H : AHeap} {acc acc' : List (Nat × AV)} {o : Oper} {s : List (Nat × Nat)} {r : AV} (h : dutyA P N C σ0 H acc o s r) (h1 : ∀ t j, srcOf s t = some j → lookR acc j = lookR acc' j) (h2 : ∀ g w, o.guard = some (g, w) → lookR acc g = lookR acc' g) :
    dutyA P N C σ0 H acc' o s r := by
  unfold dutyA at *
  rw [← envOf_congr h1]
  cases hg : o.guard with
  | none => rw [hg] at h; exact h
  | some p =>
    obtain ⟨g, w⟩ := p
    rw [hg] at h
    simp only at h ⊢
    rw [← h2 g w hg]; exact h
theorem chainP_elim {P : Program} {N : Nat} {C : Ctx} {σ0 : AEnv} {ci : List Nat} {F : List (Nat × AV) → Prop} : ∀ (os : List Oper) (ss : List (List (Nat × Nat))) (k : Nat) (acc : List (Nat × AV)), (∀ j r, lookR acc j = some r → j < k) → chainP P N C σ0 ci F os ss k acc →
    ∃ full, F full ∧ (∀ j, j < k → lookR full j = lookR acc j) ∧
      ∀ i o s, os[i]? = some o → ss[i]? = some s → k + i ∉ ci → ∃ r acc', lookR full (k + i) = some r ∧ dutyQ P N C σ0 acc' o s r ∧ ∀ j, j < k + i → lookR acc' j = lookR full j
  | [], ss, k, acc, hacc, h => ⟨acc, by cases ss <;> exact h, fun _ _ => rfl, fun i o s ho => by simp at ho⟩
  | o :: os, [], k, acc, _, h => h.elim
  | o :: os, s :: ss, k, acc, hacc, h => by
    simp only [chainP] at h
    have hacc2 : ∀ r, ∀ j q, lookR ((k, r) :: acc) j = some q → j < k + 1 := fun r j q hj => by
      rw [lookR_cons] at hj
      by_cases e : k = j
      · omega
      · rw [if_neg e] at hj; have := hacc j q hj; omega
    cases hc : ci.contains k with
    | true =>
      rw [hc] at h
      simp only [cond_true] at h
      have fin : ∀ acc2, (∀ j, j < k → lookR acc2 j = lookR acc j) → (∀ j r, lookR acc2 j = some r → j < k + 1) → chainP P N C σ0 ci F os ss (k + 1) acc2 → ∃ full, F full ∧ (∀ j, j < k → lookR full j = lookR acc j) ∧
          ∀ i o' s', (o :: os)[i]? = some o' → (s :: ss)[i]? = some s' → k + i ∉ ci → ∃ r acc', lookR full (k + i) = some r ∧ dutyQ P N C σ0 acc' o' s' r ∧ ∀ j, j < k + i → lookR acc' j = lookR full j := fun acc2 ha hb h => by
        obtain ⟨full, hF, h1, h3⟩ := chainP_elim os ss (k + 1) acc2 hb h
        refine ⟨full, hF, fun j hj => (h1 j (by omega)).trans (ha j hj), fun i o' s' ho hs hni => ?_⟩
        cases i with
        | zero => exact absurd (by simpa using hc) hni
        | succ i =>
          have e : k + (i + 1) = k + 1 + i := by omega
          rw [e]
          exact h3 i o' s' (by simpa using ho) (by simpa using hs) (by rw [← e]; exact hni)
      rcases h with h | ⟨r, h⟩
      · exact fin acc (fun _ _ => rfl) (fun j r hj => Nat.lt_succ_of_lt (hacc j r hj)) h
      · exact fin ((k, r) :: acc) (fun j hj => by rw [lookR_cons, if_neg (by omega)]) (hacc2 r) h
    | false =>
      rw [hc] at h
      simp only [cond_false] at h
      obtain ⟨r, hd, h⟩ := h
      obtain ⟨full, hF, h1, h3⟩ := chainP_elim os ss (k + 1) ((k, r) :: acc) (hacc2 r) h
      refine ⟨full, hF, fun j hj => by rw [h1 j (by omega), lookR_cons, if_neg (by omega)], fun i o' s' ho hs hni => ?_⟩
      cases i with
      | zero =>
        simp only [List.getElem?_cons_zero, Option.some.injEq] at ho hs
        subst ho; subst hs
        refine ⟨r, acc, by rw [Nat.add_zero, h1 k (by omega), lookR_cons, if_pos rfl], hd, fun j hj => ?_⟩
        rw [Nat.add_zero] at hj
        rw [h1 j (by omega), lookR_cons, if_neg (by omega)]
      | succ i =>
        have e : k + (i + 1) = k + 1 + i := by omega
        rw [e]
        exact h3 i o' s' (by simpa using ho) (by simpa using hs) (by rw [← e]; exact hni)
def finV (vs : Nat → Value) : List Oper → Nat → Env → Env
  | o :: os, k, ρ => match o.dst with
    | some d => finV vs os (k + 1) ((d, vs k) :: ρ)
    | none => finV vs os (k + 1) ρ
  | [], _, ρ => ρ
theorem finV_st {C : Ctx} {J : Im} {L : Lh} {H : AHeap} {acc : List (Nat × AV)} {vs : Nat → Value} : ∀ (os : List Oper) (k : Nat) (σ : AEnv) (ρ : Env), RSt C J L σ H ρ → (∀ i o, os[i]? = some o → ∃ r, lookR acc (k + i) = some r ∧ RepV J r (vs (k + i))) →
    RSt C J L (finA acc os k σ) H (finV vs os k ρ)
  | [], k, σ, ρ, hs, _ => hs
  | o :: os, k, σ, ρ, hs, hd => by
    obtain ⟨r, h1, h2⟩ := hd 0 o rfl
    simp only [Nat.add_zero] at h1 h2
    have hd' : ∀ i o', os[i]? = some o' → ∃ r, lookR acc (k + 1 + i) = some r ∧ RepV J r (vs (k + 1 + i)) := fun i o' ho => by
      have := hd (i + 1) o' (by simpa using ho)
      rwa [show k + (i + 1) = k + 1 + i by omega] at this
    cases ho : o.dst with
    | none => simp only [finA, finV, ho]; exact finV_st os (k + 1) σ ρ hs hd'
    | some d => simp only [finA, finV, ho, h1]; exact finV_st os (k + 1) _ _ (hs.put (Le.refl J) h2 hs.heap) hd'
theorem finV_fits {N : Nat} {vs : Nat → Value} {a : Act} (hd : a.defers = []) (hsz : a.tmps.size = N) : ∀ (os : List Oper) (k : Nat) (ρ : Env),
    (∀ (i : Nat) (o : Oper) (d : Nat), os[i]? = some o → o.dst = some d → a.tmps[d]? = some (vs (k + i))) → (∀ t v, Fl.look ρ t = some v → (∀ (i : Nat) (o : Oper), os[i]? = some o → o.dst ≠ some t) → a.tmps[t]? = some v) → Fits N (finV vs os k ρ) a
  | [], k, ρ, _, h => ⟨hd, hsz, fun t v hv => h t v hv (fun i o ho => by simp at ho)⟩
  | o :: os, k, ρ, hI, hO => by
    have hI' : ∀ (i : Nat) (o' : Oper) (d : Nat), os[i]? = some o' → o'.dst = some d → a.tmps[d]? = some (vs (k + 1 + i)) := fun i o' d ho hdd => by
      have := hI (i + 1) o' d (by simpa using ho) hdd
      rwa [show k + (i + 1) = k + 1 + i by omega] at this
    cases ho : o.dst with
    | none =>
      simp only [finV, ho]
      refine finV_fits hd hsz os (k + 1) ρ hI' fun t v hv hno => hO t v hv fun i o' ho' => ?_
      cases i with
      | zero => simp only [List.getElem?_cons_zero, Option.some.injEq] at ho'; subst ho'; rw [ho]; exact fun h => by cases h
      | succ i => exact hno i o' (by simpa using ho')
    | some d =>
      simp only [finV, ho]
      refine finV_fits hd hsz os (k + 1) _ hI' fun t v hv hno => ?_
      rw [Fl.look_cons] at hv
      by_cases e : d = t
      · subst e
        rw [if_pos rfl] at hv
        cases hv
        have := hI 0 o d rfl ho
        simpa using this
      · rw [if_neg e] at hv
        refine hO t v hv fun i o' ho' => ?_
        cases i with
        | zero =>
          simp only [List.getElem?_cons_zero, Option.some.injEq] at ho'
          subst ho'
          rw [ho]
          exact fun h => e (Option.some.inj h)
        | succ i => exact hno i o' (by simpa using ho')
theorem wpA.drawC {P : Program} {C : Ctx} {N : Nat} {Q : Exit → AEnv → AHeap → Prop} {σ : AEnv} {H : AHeap} {id : Nat} {l : List Oper} (hm : P.follows .mixedOrders = true) (n : Nat) (ss : List (List (Nat × Nat))) (ci : List Nat)
    (hN : dstOk N l = true) (hB : phiOk l.toArray n ss = true) (hss : Nat.ble n ss.length = true) (hC : chainOk l.toArray n ss ci = true) (hnd : ci.Nodup)
    (h : chainP P N C σ ci (fun accP => plan P C N σ accP (fun cacc H' => wpB P C N l.toArray Q (l.drop n) (finA (cacc ++ accP) (l.take n) 0 σ) H') (clOf l ss ci) [] H) (l.take n) ss 0 []) :
    wpA P C N (.region id l.toArray true) Q σ H := fun ρ I L hs a w ha hst => by
  have hB0 := hB
  simp only [phiOk, Bool.and_eq_true, Bool.or_eq_true] at hB
  obtain ⟨⟨⟨⟨⟨hle, hback⟩, hok⟩, hdst⟩, htail⟩, hseq⟩ := hB
  have hle' : n ≤ l.length := by simpa using Nat.le_of_ble_eq_true hle
  have hok' : ∀ i, i < n → opOk l.toArray n ss i = true := fun i hi => List.all_eq_true.1 hok i (List.mem_range.2 hi)
  have hssl := Nat.le_of_ble_eq_true hss
  obtain ⟨full, hF, _, hd⟩ := chainP_elim (l.take n) ss 0 [] (fun j r hj => by simp [lookR] at hj) h
  have hC' := hC
  unfold chainOk at hC'
  have hcin : ∀ i ∈ ci, i < n := fun i hi => by
    obtain ⟨m, hm⟩ := List.mem_iff_getElem?.1 hi
    have h1 := List.all_eq_true.1 hC' m (List.mem_range.2 (List.getElem?_eq_some_iff.1 hm).1)
    simp only [hm, Bool.and_eq_true] at h1
    simpa [Nat.blt_eq] using h1.1
  have hcl := clOf_get (l := l) (ss := ss) ci (fun i hi => ⟨_, _, List.getElem?_eq_getElem (Nat.lt_of_lt_of_le (hcin i hi) hle'), List.getElem?_eq_getElem (Nat.lt_of_lt_of_le (hcin i hi) hssl)⟩)
  have hp : ∀ i o s, i < n → i ∉ ci → l[i]? = some o → ss[i]? = some s → ∃ r, lookR full i = some r ∧ dutyQ P N C σ full o s r := fun i o s hi hic ho hsi => by
    obtain ⟨r, acc', h1, h2, h3⟩ := hd i o s (by rw [List.getElem?_take, if_pos hi]; exact ho) hsi (by simpa using hic)
    rw [Nat.zero_add] at h1 h3
    refine ⟨r, h1, fun H' => ?_⟩
    have hoi := hok' i hi
    unfold opOk at hoi
    have ho' : l.toArray[i]? = some o := by simpa using ho
    simp only [ho', hsi, Bool.and_eq_true] at hoi
    have hback' : ∀ j, Region.waitsFor .any l.toArray i j = true → j < i := fun j hw => by
      obtain ⟨e, he, hb, heq⟩ := waits_mem ho' hw
      have hil : i < l.toArray.size := (Array.getElem?_eq_some_iff.1 ho').1
      have h4 := List.all_eq_true.1 hback i (List.mem_range.2 hil)
      simp only [ho', Array.all_eq_true_iff_forall_mem] at h4
      have h5 := h4 e he
      rw [hb] at h5
      have : e.on < i := by simpa [Nat.blt_eq] using h5
      omega
    -- sources that are no operand are looked at too
    have henv : ∀ t ∈ opTmps o, ∀ j, srcOf s t = some j → lookR acc' j = lookR full j := fun t ht j hj => by
      have h6 := List.all_eq_true.1 hoi.1.2 t ht
      unfold readOk at h6
      simp only [hj, Bool.and_eq_true] at h6
      exact h3 j (hback' j h6.2)
    have hdd := h2 H'
    unfold dutyA at hdd ⊢
    have he : ∀ ts, (∀ t ∈ ts, t ∈ opTmps o) → envOf σ acc' s ts = envOf σ full s ts := by
      intro ts
      induction ts with
      | nil => intro _; rfl
      | cons t ts ih =>
        intro hts
        simp only [envOf]
        cases hsrc : srcOf s t with
        | none => simp only [ih (fun u hu => hts u (List.mem_cons_of_mem _ hu))]
        | some j => simp only [henv t (hts t List.mem_cons_self) j hsrc, ih (fun u hu => hts u (List.mem_cons_of_mem _ hu))]
    rw [← he _ (fun t ht => ht)]
    cases hg : o.guard with
    | none => rw [hg] at hdd; exact hdd
    | some p =>
      obtain ⟨g, want⟩ := p
      rw [hg] at hdd
      have h6 := hoi.2
      rw [hg] at h6
      simp only [Bool.and_eq_true] at h6
      simp only at hdd ⊢
      rw [← h3 g (hback' g h6.2)]; exact hdd
  have hs' : St C I L { w with drawn := w.drawn + 1 } := ⟨⟨hst.mem.im, hst.mem.loc, hst.mem.sep, hst.mem.nodup⟩, ⟨hst.chg.os, hst.chg.tape, hst.chg.output, hst.chg.size, hst.chg.block⟩, hst.own, hst.im0, hst.new⟩
  refine wp_region_any hm ?_
  have inv0 : CInv P C N n l ci (clOf l ss ci) σ full (fun cacc H' => wpB P C N l.toArray Q (l.drop n) (finA (cacc ++ full) (l.take n) 0 σ) H') ρ I (Array.replicate l.toArray.size false) 0 [] H I L (fun _ => undef) a { w with drawn := w.drawn + 1 } := by
    have hnl : ∀ j, (Array.replicate l.toArray.size false).getD j false = true → False := fun j hl => by rw [getD_replicate_false] at hl; cases hl
    refine ⟨⟨by simp, fun j oj _ hl => (hnl j hl).elim, fun t _ ht => getD_in (by simpa using ht) (getD_replicate_false _ _)⟩, Le.refl _, hs.im0, hs', hs.heap, Nat.zero_le _, fun m i hm => ⟨fun hl => (hnl i hl).elim, fun h => by omega⟩, by rw [List.drop_zero]; exact hF, fun j r hj => by simp [lookR] at hj, fun j r r0 hj => by simp [lookR] at hj, fun j _ hl => (hnl j hl).elim, fun j _ hl => (hnl j hl).elim, ha.defers, ha.size, fun j d _ hl => (hnl j hl).elim, fun t v hv _ => ha.tmp t v hv⟩
  have hunl : unl (Array.replicate l.toArray.size false) n = n := by
    have key : ∀ k, k ≤ l.toArray.size → unl (Array.replicate l.toArray.size false) k = k := by
      intro k
      induction k with
      | zero => intro _; rfl
      | succ k ih =>
        intro hk
        rw [unl, ih (by omega), if_pos (getD_in (by simp at hk ⊢; omega) (getD_replicate_false _ _))]
    exact key n (by simpa using hle')
  have hmain := wpAny_C (Q' := liftQ C N (qA C Q)) hs hN hback hok' hdst hC hcl hnd hp hle'
    (by rcases htail with h | h
        · exact .inl (by simpa using h)
        · exact .inr h) (by simpa using hseq)
    (fun listed k cacc H' J L' vs a' w' inv hall => by
      have hk : k = ci.length := by
        rcases Nat.lt_or_ge k ci.length with h | h
        · have := (inv.ch k _ (List.getElem?_eq_getElem h)).1 (hall _ (hcin _ (List.getElem_mem h)))
          omega
        · have := inv.kle; omega
      have hpl := inv.pl
      have hlen : (clOf l ss ci).length ≤ ci.length := by
        have : ∀ c : List Nat, (clOf l ss c).length ≤ c.length := by
          intro c
          induction c with
          | nil => exact Nat.le_refl _
          | cons i c ih =>
            simp only [clOf]
            split
            · simpa using ih
            · exact Nat.le_succ_of_le ih
        exact this ci
      rw [hk, List.drop_eq_nil_of_le hlen, plan] at hpl
      have hNd : dstOk N (l.drop n) = true := by
        simp only [dstOk, List.all_eq_true] at hN ⊢
        exact fun o ho => hN o (List.mem_of_mem_drop ho)
      have hR : RSt C J L' σ H' ρ := ⟨fun t b hb => by obtain ⟨u, h1, h2⟩ := hs.env t b hb; exact ⟨u, h1, h2.mono inv.le⟩, inv.heap, inv.im0⟩
      have hget : ∀ i o, (l.take n)[i]? = some o → i < n ∧ l[i]? = some o := fun i o ho => by
        have h1 := (List.getElem?_eq_some_iff.1 ho).1
        have hin : i < n := by rw [List.length_take] at h1; omega
        rw [List.getElem?_take, if_pos hin] at ho
        exact ⟨hin, ho⟩
      refine hpl (finV vs (l.take n) 0 ρ) J L' (finV_st (l.take n) 0 σ ρ hR fun i o ho => ?_) hNd a' w' (finV_fits inv.defers inv.size (l.take n) 0 ρ (fun i o d ho hdd => ?_) fun t v hv hno => inv.tmpO t v hv fun j hj _ hdj => ?_) inv.st
      · obtain ⟨hin, _⟩ := hget i o ho
        rw [Nat.zero_add]
        exact inv.val i hin (hall i hin)
      · obtain ⟨hin, ho2⟩ := hget i o ho
        rw [Nat.zero_add]
        exact inv.tmpI i d hin (hall i hin) (by simp [ho2, hdd])
      · have hjl : j < l.length := by omega
        have : (l.take n)[j]? = some l[j] := by rw [List.getElem?_take, if_pos hj]; exact List.getElem?_eq_getElem hjl
        refine hno j l[j] this ?_
        simpa [hjl] using hdj)
    n _ _ _ _ _ _ _ _ _ inv0 hunl
  rw [show n + (l.length - n) = l.toArray.size by simp; omega] at hmain
  exact hmain
end Go.Ab
