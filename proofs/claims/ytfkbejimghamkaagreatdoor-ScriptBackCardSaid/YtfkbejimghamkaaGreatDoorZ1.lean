/- Plain Lean over any program, and walks of this seat's functions: contracts, each proved once (part 1). -/
import Derived.Test.YtfkbejimghamkaaGreatDoorZ0
import Derived.Laws.BytesArg
import Derived.Lib.LaidTab
import Derived.Shelf.Bytes.SlJoin
import Derived.Laws.StructEq
set_option linter.unusedSimpArgs false
set_option linter.unusedVariables false
namespace Go.Ab
open Go.Fl Go.RowKit
open Rep (rep)
theorem ne_not {b w : Bool} (h : ¬ b = w) : b = !w := by cases b <;> cases w <;> simp_all
def plan (P : Program) (C : Ctx) (N : Nat) (σ0 : AEnv) (accP : List (Nat × AV)) (F : List (Nat × AV) → AHeap → Prop) : List (Nat × Oper × List (Nat × Nat)) → List (Nat × AV) → AHeap → Prop
  | [], cacc, H => F cacc H
  | (i, o, s) :: rest, cacc, H =>
    match o.guard, lookR accP i with
    | none, none => OpH P C N o (envOf σ0 (cacc ++ accP) s (opTmps o)) H (fun r H' => plan P C N σ0 accP F rest ((i, r) :: cacc) H')
    | none, some r0 => OpH P C N o (envOf σ0 (cacc ++ accP) s (opTmps o)) H (fun r H' => r = r0 ∧ plan P C N σ0 accP F rest ((i, r0) :: cacc) H')
    | some (g, want), none => ∃ b, lookR accP g = some (.v b) ∧ (b = want → OpH P C N o (envOf σ0 (cacc ++ accP) s (opTmps o)) H (fun r H' => plan P C N σ0 accP F rest ((i, r) :: cacc) H')) ∧
        (b = (!want) → plan P C N σ0 accP F rest ((i, .any) :: cacc) H)
    | some (g, want), some r0 => ∃ b c, lookR accP g = some (.v b) ∧ r0 = .opt (b == want) c ∧ (b = want → OpH P C N o (envOf σ0 (cacc ++ accP) s (opTmps o)) H (fun r H' => r = c ∧ plan P C N σ0 accP F rest ((i, r0) :: cacc) H')) ∧
        (b = (!want) → plan P C N σ0 accP F rest ((i, r0) :: cacc) H)
def planK (P : Program) (C : Ctx) (N : Nat) (σ0 : AEnv) {ι : Type 1} (HT : ι → AHeap) (accP : List (Nat × AV)) (F : List (Nat × AV) → AHeap → Prop) : List (Nat × Oper × List (Nat × Nat)) → List (Nat × AV) → AHeap → Prop
  | [], cacc, H => (∃ Hp, H = HT Hp) ∧ F cacc H
  | (i, o, s) :: rest, cacc, H => (∃ Hp, H = HT Hp) ∧
    match o.guard, lookR accP i with
    | none, none => OpH P C N o (envOf σ0 (cacc ++ accP) s (opTmps o)) H (fun r H' => planK P C N σ0 HT accP F rest ((i, r) :: cacc) H')
    | none, some r0 => OpH P C N o (envOf σ0 (cacc ++ accP) s (opTmps o)) H (fun r H' => r = r0 ∧ planK P C N σ0 HT accP F rest ((i, r0) :: cacc) H')
    | some (g, want), none => ∃ b, lookR accP g = some (.v b) ∧ (b = want → OpH P C N o (envOf σ0 (cacc ++ accP) s (opTmps o)) H (fun r H' => planK P C N σ0 HT accP F rest ((i, r) :: cacc) H')) ∧
        (b = (!want) → planK P C N σ0 HT accP F rest ((i, .any) :: cacc) H)
    | some (g, want), some r0 => ∃ b c, lookR accP g = some (.v b) ∧ r0 = .opt (b == want) c ∧ (b = want → OpH P C N o (envOf σ0 (cacc ++ accP) s (opTmps o)) H (fun r H' => r = c ∧ planK P C N σ0 HT accP F rest ((i, r0) :: cacc) H')) ∧
        (b = (!want) → planK P C N σ0 HT accP F rest ((i, r0) :: cacc) H)
theorem planK.tail {P : Program} {C : Ctx} {N : Nat} {σ0 : AEnv} {ι : Type 1} {HT : ι → AHeap} {accP : List (Nat × AV)} {F : List (Nat × AV) → AHeap → Prop} : ∀ {l : List (Nat × Oper × List (Nat × Nat))} {cacc : List (Nat × AV)} {H : AHeap}, planK P C N σ0 HT accP F l cacc H → ∃ Hp, H = HT Hp
  | [], _, _, h => h.1
  | _ :: _, _, _, h => h.1
theorem OpH.mono {P : Program} {C : Ctx} {N : Nat} {o : Oper} {σ : AEnv} {H : AHeap} {K K' : AV → AHeap → Prop} (h : OpH P C N o σ H K) (hk : ∀ r H', K r H' → K' r H') : OpH P C N o σ H K' := fun ρ I L hs a w ha hst =>
  (h ρ I L hs a w ha hst).mono fun v w' ⟨J, L', q1, q2, r, H', q3, q4, q5⟩ => ⟨J, L', q1, q2, r, H', q3, q4, hk r H' q5⟩
def chainOk (ops : Array Oper) (n : Nat) (ss : List (List (Nat × Nat))) (ci : List Nat) : Bool :=
  (List.range ci.length).all (fun k => match ci[k]? with
    | some i => Nat.blt i n && (match k with | 0 => true | k' + 1 => match ci[k']? with | some j => Nat.blt j i && Region.waitsFor .any ops i j | none => false)
    | none => false)
theorem lookR_append (a b : List (Nat × AV)) (j : Nat) : lookR (a ++ b) j = (match lookR a j with | some r => some r | none => lookR b j) := by
  induction a with
  | nil => rfl
  | cons p a ih =>
    simp only [List.cons_append, lookR]
    cases Nat.beq p.1 j with
    | true => rfl
    | false => simpa using ih
theorem lookR_cons (i : Nat) (r : AV) (a : List (Nat × AV)) (j : Nat) : lookR ((i, r) :: a) j = if i = j then some r else lookR a j := by
  by_cases h : i = j
  · subst h; simp [lookR]
  · simp [lookR, h, beq_ne h]
theorem srcOf_mem {s : List (Nat × Nat)} {t j : Nat} (h : srcOf s t = some j) : (t, j) ∈ s := by
  induction s with
  | nil => simp [srcOf] at h
  | cons p s ih =>
    simp only [srcOf] at h
    cases hb : Nat.beq p.1 t with
    | true =>
      simp only [hb, cond_true, Option.some.injEq] at h
      have := Nat.eq_of_beq_eq_true hb
      subst h; subst this; exact List.mem_cons_self
    | false => simp only [hb, cond_false] at h; exact List.mem_cons_of_mem _ (ih h)
theorem envOf_congr {σ0 : AEnv} {a b : List (Nat × AV)} {s : List (Nat × Nat)} (h : ∀ t j, srcOf s t = some j → lookR a j = lookR b j) : ∀ ts, envOf σ0 a s ts = envOf σ0 b s ts
  | [] => rfl
  | t :: ts => by
    simp only [envOf]
    cases hs : srcOf s t with
    | none => simp only [envOf_congr h ts]
    | some j => simp only [h t j hs, envOf_congr h ts]
theorem envOf_look {σ0 : AEnv} {acc : List (Nat × AV)} {s : List (Nat × Nat)} : ∀ {ts : List Nat} {t : Nat} {a : AV}, lookA (envOf σ0 acc s ts) t = some a → t ∈ ts ∧ (match srcOf s t with | none => lookA σ0 t | some j => lookR acc j) = some a
  | [], t, a, h => by simp [envOf, lookA] at h
  | u :: ts, t, a, h => by
    simp only [envOf] at h
    split at h
    · rename_i b hb
      rw [lookA_cons] at h
      by_cases e : u = t
      · subst e; simp at h; subst h; exact ⟨List.mem_cons_self, hb⟩
      · rw [if_neg e] at h
        have := envOf_look h
        exact ⟨List.mem_cons_of_mem _ this.1, this.2⟩
    · have := envOf_look h
      exact ⟨List.mem_cons_of_mem _ this.1, this.2⟩
theorem envOf_get {σ0 : AEnv} {acc : List (Nat × AV)} {s : List (Nat × Nat)} {t : Nat} {a : AV} (h : (match srcOf s t with | none => lookA σ0 t | some j => lookR acc j) = some a) : ∀ {ts : List Nat}, t ∈ ts → lookA (envOf σ0 acc s ts) t = some a
  | [], hm => by cases hm
  | u :: ts, hm => by
    by_cases e : u = t
    · subst e
      cases hs : srcOf s u with
      | none => simp only [hs] at h; simp only [envOf, hs, h]; rw [lookA_cons, if_pos rfl]
      | some j => simp only [hs] at h; simp only [envOf, hs, h]; rw [lookA_cons, if_pos rfl]
    · have hm' : t ∈ ts := by
        rcases List.mem_cons.1 hm with h1 | h1
        · exact absurd h1.symm e
        · exact h1
      simp only [envOf]
      split
      · rw [lookA_cons, if_neg e]; exact envOf_get h hm'
      · exact envOf_get h hm'
def opOkC (ops : Array Oper) (n : Nat) (ss : List (List (Nat × Nat))) (i : Nat) : Bool :=
  match ops[i]?, ss[i]? with
  | some o, some s => (opTmps o).all (readOk ops n i s) &&
    (match o.guard with | none => true | some (g, _) => Nat.blt g n && Region.waitsFor .any ops i g && ((ops[g]?).bind (·.dst)).isSome)
  | _, _ => false
def dstsOkC (ops : Array Oper) (n : Nat) : Bool := (List.range n).all fun i => (List.range i).all fun j => match (ops[i]?).bind (·.dst) with | some d => !((ops[j]?).bind (·.dst) == some d) | none => true
def phiOkC (ops : Array Oper) (n : Nat) (ss : List (List (Nat × Nat))) : Bool :=
  Nat.ble n ops.size && edgesBack ops && (List.range n).all (opOkC ops n ss) && dstsOkC ops n &&
  (n == ops.size || (Region.sinkB .any ops n && Region.chainB .any ops n)) && Region.seqB .any ops (ops.size - n) n (headAll ops.size n)
theorem put_defers (a : Act) (d : Option Nat) (v : Value) : (a.put d v).defers = a.defers := by cases d <;> rfl
theorem put_size (a : Act) (d : Option Nat) (v : Value) : (a.put d v).tmps.size = a.tmps.size := by cases d <;> simp [Act.put]
theorem put_ne (a : Act) {d : Option Nat} {t : Nat} (v : Value) (h : d ≠ some t) : (a.put d v).tmps[t]? = a.tmps[t]? := by
  cases d with
  | none => rfl
  | some d => simp [Act.put, Array.getElem?_setIfInBounds_ne (show d ≠ t from fun e => h (by rw [e]))]
theorem put_eq (a : Act) {d : Nat} (v : Value) (h : d < a.tmps.size) : (a.put (some d) v).tmps[d]? = some v := by simp [Act.put, h]
def dutyQ (P : Program) (N : Nat) (C : Ctx) (σ0 : AEnv) {ι : Type 1} (HT : ι → AHeap) (accP : List (Nat × AV)) (o : Oper) (s : List (Nat × Nat)) (r : AV) : Prop := ∀ Hp, dutyA P N C σ0 (HT Hp) accP o s r
structure CInv (P : Program) (C : Ctx) (N n : Nat) (l : List Oper) (ci : List Nat) (cl : List (Nat × Oper × List (Nat × Nat))) (σ0 : AEnv) {ι : Type 1} (HT : ι → AHeap) (accP : List (Nat × AV)) (F : List (Nat × AV) → AHeap → Prop) (ρ0 : Env) (I : Im)
    (listed : Array Bool) (k : Nat) (cacc : List (Nat × AV)) (H : AHeap) (J : Im) (L : Lh) (vs : Nat → Value) (a : Act) (w : World) : Prop where
  head : HeadInv .any l.toArray n listed
  le : Le I J
  im0 : Le C.I0 J
  st : St C J L w
  heap : repH C.w0.heap.size J H L
  kle : k ≤ ci.length
  ch : ∀ m i, ci[m]? = some i → (listed.getD i false = true ↔ m < k)
  pl : planK P C N σ0 HT accP F (cl.drop k) cacc H
  keys : ∀ j r, lookR cacc j = some r → j ∈ ci
  prom : ∀ j r r0, lookR cacc j = some r → lookR accP j = some r0 → r = r0
  proL : ∀ j, j ∈ ci → listed.getD j false = true → ∃ r, lookR cacc j = some r
  val : ∀ j, j < n → listed.getD j false = true → ∃ r, lookR (cacc ++ accP) j = some r ∧ RepV J r (vs j)
  defers : a.defers = []
  size : a.tmps.size = N
  tmpI : ∀ j d, j < n → listed.getD j false = true → (l.toArray[j]?).bind (·.dst) = some d → a.tmps[d]? = some (vs j)
  tmpO : ∀ t v, Fl.look ρ0 t = some v → (∀ j, j < n → listed.getD j false = true → (l.toArray[j]?).bind (·.dst) ≠ some t) → a.tmps[t]? = some v
section
variable {P : Program} {C : Ctx} {N n : Nat} {l : List Oper} {ci : List Nat} {cl : List (Nat × Oper × List (Nat × Nat))} {ss : List (List (Nat × Nat))} {σ0 : AEnv} {ι : Type 1} {HT : ι → AHeap} {accP : List (Nat × AV)} {F : List (Nat × AV) → AHeap → Prop} {ρ0 : Env} {I : Im} {L0 : Lh} {H0 : AHeap}
theorem CInv.step {listed : Array Bool} {k : Nat} {cacc : List (Nat × AV)} {H : AHeap} {J : Im} {L : Lh} {vs : Nat → Value} {a : Act} {w : World} {Q' : Exit → Act → World → Prop}
    (h0 : RSt C I L0 σ0 H0 ρ0) (hN : dstOk N l = true) (hok : ∀ i, i < n → opOkC l.toArray n ss i = true) (hdst : dstsOkC l.toArray n = true) (hch : chainOk l.toArray n ss ci = true)
    (hcl : ∀ (m i : Nat) (o : Oper) (s : List (Nat × Nat)), ci[m]? = some i → l[i]? = some o → ss[i]? = some s → cl[m]? = some (i, o, s)) (hnd : ci.Nodup)
    (hp : ∀ i o s, i < n → i ∉ ci → l[i]? = some o → ss[i]? = some s → ∃ r, lookR accP i = some r ∧ dutyQ P N C σ0 HT accP o s r)
    (inv : CInv P C N n l ci cl σ0 HT accP F ρ0 I listed k cacc H J L vs a w) {i : Nat} (hr : i ∈ Region.ready .any l.toArray listed) (hin : i < n)
    {K : Act → World → Prop} (hK : ∀ k cacc H J L vs a' w, CInv P C N n l ci cl σ0 HT accP F ρ0 I (listed.setIfInBounds i true) k cacc H J L vs a' w → K a' w) :
    wpOpIn C.fen 0 P l.toArray Q' i K a w := by
  obtain ⟨hun, o, ho, hall⟩ := mem_ready.1 hr
  have hol : l[i]? = some o := by simpa using ho
  have hok' := hok i hin
  unfold opOkC at hok'
  simp only [ho] at hok'
  cases hs : ss[i]? with
  | none => simp [hs] at hok'
  | some s =>
  simp only [hs, Bool.and_eq_true] at hok'
  obtain ⟨hreads, hguard⟩ := hok'
  have hdN : ∀ d, o.dst = some d → d < N := fun d hod => by
    have := List.all_eq_true.1 hN o (List.mem_of_getElem? hol)
    rw [hod] at this
    simpa [Nat.blt_eq] using this
  have hlisted : ∀ j, Region.waitsFor .any l.toArray i j = true → listed.getD j false = true := fun j hw => by
    obtain ⟨e, he, hb, heq⟩ := waits_mem ho hw
    exact heq ▸ hall e he hb
  have hilt : i < listed.size := by
    rcases Nat.lt_or_ge i listed.size with h' | h'
    · exact h'
    · simp [Array.getElem?_eq_none h'] at hun
  have hiun : listed.getD i false = false := getD_both hun
  have hnot : ∀ j, Region.waitsFor .any l.toArray j i = true → listed.getD j false = true → False := fun j hw hl => by
    obtain ⟨oj, hoj, e, he, hb, heq⟩ := Region.waitsFor_spec hw
    have := inv.head.closed j oj hoj hl e he hb
    rw [heq, hiun] at this
    cases this
  have hch1 := hch
  unfold chainOk at hch1
  let g : Nat → Option Value := fun t => match srcOf s t with | some j => some (vs j) | none => Fl.look ρ0 t
  have hsrcl : ∀ t ∈ opTmps o, ∀ j, srcOf s t = some j → j < n ∧ listed.getD j false = true ∧ (l.toArray[j]?).bind (·.dst) = some t := fun t ht j hj => by
    have hro := List.all_eq_true.1 hreads t ht
    unfold readOk at hro
    simp only [hj, Bool.and_eq_true, beq_iff_eq] at hro
    exact ⟨by simpa [Nat.blt_eq] using hro.1.1, hlisted j hro.2, hro.1.2⟩
  have hfits : Fits N (mkEnv g (opTmps o)) a := by
    refine ⟨inv.defers, inv.size, fun t v hv => ?_⟩
    obtain ⟨hmem, hg⟩ := look_mkEnv hv
    cases hsrc : srcOf s t with
    | some j =>
      obtain ⟨h1, h2, h3⟩ := hsrcl t hmem j hsrc
      have hgv : vs j = v := by simpa [g, hsrc] using hg
      rw [← hgv]
      exact inv.tmpI j t h1 h2 h3
    | none =>
      have hro := List.all_eq_true.1 hreads t hmem
      unfold readOk at hro
      simp only [hsrc] at hro
      refine inv.tmpO t v (by simpa [g, hsrc] using hg) fun j hj hl hdj => ?_
      have h1 := List.all_eq_true.1 hro j (List.mem_range.2 hj)
      simp only [hdj, beq_self_eq_true, Bool.not_true, Bool.false_or, Bool.or_eq_true, beq_iff_eq] at h1
      rcases h1 with h1 | h1
      · subst h1; rw [hiun] at hl; cases hl
      · exact hnot j h1 hl
  have henv : ∀ t b, lookA (envOf σ0 (cacc ++ accP) s (opTmps o)) t = some b → ∃ u, Fl.look (mkEnv g (opTmps o)) t = some u ∧ RepV J b u := fun t b hb => by
    obtain ⟨hmem, hb2⟩ := envOf_look hb
    cases hsrc : srcOf s t with
    | some j =>
      simp only [hsrc] at hb2
      obtain ⟨h1, h2, _⟩ := hsrcl t hmem j hsrc
      obtain ⟨r, h3, h4⟩ := inv.val j h1 h2
      rw [hb2] at h3
      cases h3
      exact ⟨vs j, by rw [look_mkEnv_mem hmem]; simp [g, hsrc], h4⟩
    | none =>
      simp only [hsrc] at hb2
      obtain ⟨u, h1, h2⟩ := h0.env t b hb2
      exact ⟨u, by rw [look_mkEnv_mem hmem]; simpa [g, hsrc] using h1, h2.mono inv.le⟩
  have hR : RSt C J L (envOf σ0 (cacc ++ accP) s (opTmps o)) H (mkEnv g (opTmps o)) := ⟨henv, inv.heap, inv.im0⟩
  have hput : ∀ j, j ≠ i → (listed.setIfInBounds i true).getD j false = listed.getD j false := fun j hj => getD_set_ne false (Ne.symm hj)
  have hdne : ∀ j, j < n → j ≠ i → ∀ d', (l.toArray[j]?).bind (·.dst) = some d' → o.dst ≠ some d' := by
    intro j hj hji d' hd' hod
    have hdi : (l.toArray[i]?).bind (·.dst) = some d' := by rw [ho]; exact hod
    rcases Nat.lt_or_gt_of_ne hji with h1 | h1
    · have := List.all_eq_true.1 (List.all_eq_true.1 hdst i (List.mem_range.2 hin)) j (List.mem_range.2 h1)
      rw [hdi, hd'] at this
      simp at this
    · have := List.all_eq_true.1 (List.all_eq_true.1 hdst j (List.mem_range.2 hj)) i (List.mem_range.2 h1)
      rw [hdi, hd'] at this
      simp at this
  -- what a finished operation does
  have fin : ∀ v J' L' H' k' cacc' w' r, Le J J' → St C J' L' w' → repH C.w0.heap.size J' H' L' → RepV J' r v → lookR (cacc' ++ accP) i = some r → (∀ j, j ≠ i → lookR (cacc' ++ accP) j = lookR (cacc ++ accP) j) → k' ≤ ci.length →
      (∀ m i', ci[m]? = some i' → ((listed.setIfInBounds i true).getD i' false = true ↔ m < k')) → planK P C N σ0 HT accP F (cl.drop k') cacc' H' → (∀ j r, lookR cacc' j = some r → j ∈ ci) → (∀ j r r0, lookR cacc' j = some r → lookR accP j = some r0 → r = r0) → (∀ j, j ∈ ci → (listed.setIfInBounds i true).getD j false = true → ∃ r, lookR cacc' j = some r) → K (a.put o.dst v) w' := by
    intro v J' L' H' k' cacc' w' r hle hst hH hv hri hrj hk' hch' hpl hkeys hprom hproL
    refine hK k' cacc' H' J' L' (fun j => if j = i then v else vs j) _ _ ⟨inv.head.set hr hin, inv.le.trans hle, inv.im0.trans hle, hst, hH, hk', hch', hpl, hkeys, hprom, hproL, fun j hj hl => ?_, ?_, ?_, fun j d' hj hl hd' => ?_, fun t u hu hno => ?_⟩
    · by_cases hji : j = i
      · subst hji
        exact ⟨r, hri, by simpa using hv⟩
      · rw [hput j hji] at hl
        obtain ⟨q, h1, h2⟩ := inv.val j hj hl
        exact ⟨q, (hrj j hji).trans h1, by simpa [hji] using h2.mono hle⟩
    · rw [put_defers]; exact inv.defers
    · rw [put_size]; exact inv.size
    · by_cases hji : j = i
      · subst hji
        have hod : o.dst = some d' := by rw [ho] at hd'; exact hd'
        rw [hod, put_eq _ _ (by rw [inv.size]; exact hdN d' hod), if_pos rfl]
      · rw [hput j hji] at hl
        rw [put_ne _ _ (hdne j hj hji d' hd'), if_neg hji]
        exact inv.tmpI j d' hj hl hd'
    · rw [put_ne _ _ (fun hod => hno i hin (getD_set_true' hilt) (by rw [ho]; exact hod))]
      refine inv.tmpO t u hu fun j hj hl => hno j hj ?_
      by_cases hji : j = i
      · subst hji; rw [hiun] at hl; cases hl
      · rw [hput j hji]; exact hl
  -- the guard
  have hgrd : ∀ gi want, o.guard = some (gi, want) → ∀ b, lookR accP gi = some (.v b) → yielded l.toArray a.tmps gi = some b := fun gi want hg b hb => by
    rw [hg] at hguard
    simp only [Bool.and_eq_true] at hguard
    have hgn : gi < n := by simpa [Nat.blt_eq] using hguard.1.1
    have hgl := hlisted gi hguard.1.2
    obtain ⟨r, h1, h2⟩ := inv.val gi hgn hgl
    have hr2 : r = .v b := by
      rw [lookR_append] at h1
      cases hc : lookR cacc gi with
      | some q =>
        rw [hc] at h1
        cases h1
        exact inv.prom gi _ _ hc hb
      | none =>
        rw [hc] at h1
        simp only at h1
        rw [hb] at h1
        exact (Option.some.inj h1).symm
    subst hr2
    obtain ⟨cs, rfl, hvs⟩ := h2
    obtain ⟨dg, hdg0⟩ := Option.isSome_iff_exists.1 hguard.2
    obtain ⟨og, hog, hdg⟩ := Option.bind_eq_some_iff.1 hdg0
    have htg := inv.tmpI gi dg hgn hgl (by rw [hog]; exact hdg)
    rw [hvs] at htg
    unfold yielded
    rw [hog]
    simp only [Option.bind_some, hdg, htg]
    rfl
  unfold wpOpIn
  simp only [ho]
  by_cases hic : i ∈ ci
  · obtain ⟨m, hm⟩ := List.mem_iff_getElem?.1 hic
    have hmk : ¬ m < k := fun h => by
      have := (inv.ch m i hm).2 h
      rw [hiun] at this; cases this
    have hml : m < ci.length := (List.getElem?_eq_some_iff.1 hm).1
    have hkm : m ≤ k := by
      cases m with
      | zero => omega
      | succ mj =>
        have h1 := List.all_eq_true.1 hch1 (mj + 1) (List.mem_range.2 hml)
        simp only [hm, Bool.and_eq_true] at h1
        cases hj : ci[mj]? with
        | none => simp [hj] at h1
        | some j =>
          simp only [hj, Bool.and_eq_true] at h1
          have := (inv.ch mj j hj).1 (hlisted j h1.2.2)
          omega
    have hmk' : m = k := by omega
    subst hmk'
    have hc := hcl m i o s hm hol hs
    have hdrop : cl.drop m = (i, o, s) :: cl.drop (m + 1) := by
      have hlt := (List.getElem?_eq_some_iff.1 hc).1
      rw [List.drop_eq_getElem_cons hlt]
      congr 1
      rw [List.getElem?_eq_getElem hlt] at hc
      exact Option.some.inj hc
    have hpl := inv.pl
    rw [hdrop, planK] at hpl
    replace hpl := hpl.2
    have hch' : ∀ mj i', ci[mj]? = some i' → ((listed.setIfInBounds i true).getD i' false = true ↔ mj < m + 1) := fun mj i' hm' => by
      by_cases e : i' = i
      · subst e
        have hlj := (List.getElem?_eq_some_iff.1 hm').1
        have heq : ci[mj]'hlj = ci[m]'hml := by rw [(List.getElem?_eq_some_iff.1 hm').2, (List.getElem?_eq_some_iff.1 hm).2]
        have : mj = m := by
          rcases Nat.lt_trichotomy mj m with h | h | h
          · exact absurd heq ((List.pairwise_iff_getElem.1 hnd) mj m hlj hml h)
          · exact h
          · exact absurd heq.symm ((List.pairwise_iff_getElem.1 hnd) m mj hml hlj h)
        exact ⟨fun _ => by omega, fun _ => getD_set_true' hilt⟩
      · rw [hput i' e, inv.ch mj i' hm']
        have : mj ≠ m := by
          rintro rfl
          rw [hm] at hm'; exact e (Option.some.inj hm').symm
        omega
    have hkeys : ∀ r, ∀ j q, lookR ((i, r) :: cacc) j = some q → j ∈ ci := fun r j q hq => by
      rw [lookR_cons] at hq
      by_cases e : i = j
      · subst e; exact hic
      · rw [if_neg e] at hq; exact inv.keys j q hq
    have hself : ∀ r, lookR ((i, r) :: cacc ++ accP) i = some r := fun r => by rw [List.cons_append, lookR_cons, if_pos rfl]
    have hoth : ∀ r j, j ≠ i → lookR ((i, r) :: cacc ++ accP) j = lookR (cacc ++ accP) j := fun r j hj => by rw [List.cons_append, lookR_cons, if_neg (Ne.symm hj)]
    have hprom : ∀ r, (∀ r0, lookR accP i = some r0 → r = r0) → ∀ j q r0, lookR ((i, r) :: cacc) j = some q → lookR accP j = some r0 → q = r0 := fun r hr0 j q r0 hq h0 => by
      rw [lookR_cons] at hq
      by_cases e : i = j
      · subst e; rw [if_pos rfl] at hq; cases hq; exact hr0 r0 h0
      · rw [if_neg e] at hq; exact inv.prom j q r0 hq h0
    have hproL : ∀ r, ∀ j, j ∈ ci → (listed.setIfInBounds i true).getD j false = true → ∃ q, lookR ((i, r) :: cacc) j = some q := fun r j hj hl => by
      by_cases e : i = j
      · subst e; exact ⟨r, by rw [lookR_cons, if_pos rfl]⟩
      · rw [hput j (Ne.symm e)] at hl
        obtain ⟨q, hq⟩ := inv.proL j hj hl
        exact ⟨q, by rw [lookR_cons, if_neg e]; exact hq⟩
    have run : ∀ (R : AV → AV), (∀ r r0, lookR accP i = some r0 → R r = r0) → ∀ Z : AV → Prop, (∀ r, Z r → ∀ J' u, RepV J' r u → RepV J' (R r) u) →
        OpH P C N o (envOf σ0 (cacc ++ accP) s (opTmps o)) H (fun r H' => Z r ∧ planK P C N σ0 HT accP F (cl.drop (m + 1)) ((i, R r) :: cacc) H') → o.wpIn C.fen 0 P a w K Q' := fun R hR0 Z hZ h => by
      refine Yld.wp ((h _ J L hR a w hfits inv.st).mono ?_)
      rintro v w' ⟨J', L', hst, hle, r, H', h1, h2, h3, h4⟩
      exact fin v J' L' H' (m + 1) ((i, R r) :: cacc) w' (R r) hle hst h2 (hZ r h3 _ _ h1) (hself _) (hoth _) (by omega) hch' h4 (hkeys _) (hprom _ (hR0 r)) (hproL _)
    have skipd : ∀ b want r, o.guard.isSome = true → (∀ r0, lookR accP i = some r0 → r = r0) → RepV J r undef → planK P C N σ0 HT accP F (cl.drop (m + 1)) ((i, r) :: cacc) H → (b : Bool) = !want → K (a.put o.dst undef) w := fun b want r _ hr0 hu hp _ =>
      fin undef J L H (m + 1) ((i, r) :: cacc) w r (Le.refl J) inv.st inv.heap hu (hself r) (hoth r) (by omega) hch' hp (hkeys r) (hprom r hr0) (hproL r)
    cases hg : o.guard with
    | none =>
      rw [if_pos (by simp [Region.wanted, hg])]
      cases hpr : lookR accP i with
      | none =>
        rw [hg, hpr] at hpl
        exact run (fun r => r) (fun r r0 h => by rw [hpr] at h; cases h) (fun _ => True) (fun _ _ _ _ h => h) (by
          intro ρ' I' L' hs' a' w' ha' hst'
          exact Yld.mono (hpl ρ' I' L' hs' a' w' ha' hst') (fun v w'' ⟨J', L'', q1, q2, r, H', q3, q4, q5⟩ => ⟨J', L'', q1, q2, r, H', q3, q4, trivial, q5⟩))
      | some r0 =>
        rw [hg, hpr] at hpl
        exact run (fun _ => r0) (fun r q h => by rw [hpr] at h; exact Option.some.inj h) (fun r => r = r0) (fun r hr _ _ h => hr ▸ h) hpl
    | some gw =>
      obtain ⟨gi, want⟩ := gw
      cases hpr : lookR accP i with
      | none =>
        rw [hg, hpr] at hpl
        obtain ⟨b, hb, h1, h2⟩ := hpl
        have hy := hgrd gi want hg b hb
        by_cases hbw : b = want
        · rw [if_pos (by simp [Region.wanted, hg, hy, hbw])]
          exact run (fun r => r) (fun r r0 h => by rw [hpr] at h; cases h) (fun _ => True) (fun _ _ _ _ h => h) (by
            intro ρ' I' L' hs' a' w' ha' hst'
            exact Yld.mono (h1 hbw ρ' I' L' hs' a' w' ha' hst') (fun v w'' ⟨J', L'', q1, q2, r, H', q3, q4, q5⟩ => ⟨J', L'', q1, q2, r, H', q3, q4, trivial, q5⟩))
        · have hwf : ¬ Region.wanted o (yielded l.toArray a.tmps) = true := by simpa [Region.wanted, hg, hy] using hbw
          rw [if_neg hwf]
          refine ⟨fun _ _ => trivial, ?_⟩
          have hbn : b = !want := ne_not hbw
          exact skipd b want .any (by simp [hg]) (fun r0 h => by rw [hpr] at h; cases h) trivial (h2 hbn) hbn
      | some r0 =>
        rw [hg, hpr] at hpl
        obtain ⟨b, c, hb, rfl, h1, h2⟩ := hpl
        have hy := hgrd gi want hg b hb
        by_cases hbw : b = want
        · rw [if_pos (by simp [Region.wanted, hg, hy, hbw])]
          exact run (fun _ => .opt (b == want) c) (fun r q h => by rw [hpr] at h; exact Option.some.inj h) (fun r => r = c) (fun r hr J' u h _ => hr ▸ h) (h1 hbw)
        · have hwf : ¬ Region.wanted o (yielded l.toArray a.tmps) = true := by simpa [Region.wanted, hg, hy] using hbw
          rw [if_neg hwf]
          refine ⟨fun _ _ => trivial, ?_⟩
          have hbn : b = !want := ne_not hbw
          exact skipd b want (.opt (b == want) c) (by simp [hg]) (fun q h => by rw [hpr] at h; exact Option.some.inj h) (fun hc => absurd (by simpa using hc) hbw) (h2 hbn) hbn
  · obtain ⟨r, hri, hd⟩ := hp i o s hin hic hol hs
    have hcn : ∀ j, j ∉ ci → lookR cacc j = none := fun j hj => by
      cases hc : lookR cacc j with
      | none => rfl
      | some q => exact absurd (inv.keys j q hc) hj
    have hself : lookR (cacc ++ accP) i = some r := by rw [lookR_append, hcn i hic]; exact hri
    have hRq : RSt C J L (envOf σ0 accP s (opTmps o)) H (mkEnv g (opTmps o)) := hR.sub fun t b hb => by
      obtain ⟨hmem, hb2⟩ := envOf_look hb
      refine envOf_get ?_ hmem
      cases hsrc : srcOf s t with
      | none => simp only [hsrc] at hb2 ⊢; exact hb2
      | some j =>
        simp only [hsrc] at hb2 ⊢
        rw [lookR_append]
        cases hc : lookR cacc j with
        | none => exact hb2
        | some q => exact congrArg some (inv.prom j q b hc hb2)
    have hproL : ∀ j, j ∈ ci → (listed.setIfInBounds i true).getD j false = true → ∃ q, lookR cacc j = some q := fun j hj hl => by
      have : j ≠ i := by rintro rfl; exact hic hj
      rw [hput j this] at hl; exact inv.proL j hj hl
    have hch' : ∀ mj i', ci[mj]? = some i' → ((listed.setIfInBounds i true).getD i' false = true ↔ mj < k) := fun mj i' hm' => by
      have : i' ≠ i := by rintro rfl; exact hic (List.mem_of_getElem? hm')
      rw [hput i' this]; exact inv.ch mj i' hm'
    obtain ⟨Hp, hHp⟩ := inv.pl.tail
    have hdH := hd Hp
    rw [← hHp] at hdH
    unfold dutyA at hdH
    have run : ∀ (c : AV), OpP P N C o (envOf σ0 accP s (opTmps o)) H (fun r' => r' = c) → (∀ J' u, RepV J' c u → RepV J' r u) → o.wpIn C.fen 0 P a w K Q' := fun c h hcr => by
      refine Yld.wp ((h _ J L hRq a w hfits inv.st.mem).mono ?_)
      rintro v w' ⟨J', X, hc, hle, hn, hm, hX, rfl, r', h1, rfl⟩
      have hst := (inv.st.step hc hle hn hm hX)
      rw [List.nil_append] at hst
      exact fin v J' L H k cacc w' r hle hst (inv.heap.mono hle) (hcr _ _ h1) hself (fun j hj => rfl) inv.kle hch' inv.pl inv.keys inv.prom hproL
    cases hg : o.guard with
    | none =>
      rw [hg] at hdH
      rw [if_pos (by simp [Region.wanted, hg])]
      exact run r hdH (fun _ _ h => h)
    | some gw =>
      obtain ⟨gi, want⟩ := gw
      rw [hg] at hdH
      obtain ⟨b, c, hb, rfl, h2⟩ := hdH
      have hy := hgrd gi want hg b hb
      by_cases hbw : b = want
      · rw [if_pos (by simp [Region.wanted, hg, hy, hbw])]
        exact run c (h2 hbw) (fun _ _ h _ => h)
      · have hwf : ¬ Region.wanted o (yielded l.toArray a.tmps) = true := by simpa [Region.wanted, hg, hy] using hbw
        rw [if_neg hwf]
        refine ⟨fun _ _ => trivial, ?_⟩
        exact fin undef J L H k cacc w (.opt (b == want) c) (Le.refl J) inv.st inv.heap (fun hc => absurd (by simpa using hc) hbw) hself (fun j hj => rfl) inv.kle hch' inv.pl inv.keys inv.prom hproL
theorem wpAny_C {Q' : Exit → Act → World → Prop} (h0 : RSt C I L0 σ0 H0 ρ0) (hN : dstOk N l = true) (hback : edgesBack l.toArray = true) (hok : ∀ i, i < n → opOkC l.toArray n ss i = true) (hdst : dstsOkC l.toArray n = true) (hch : chainOk l.toArray n ss ci = true)
    (hcl : ∀ (m i : Nat) (o : Oper) (s : List (Nat × Nat)), ci[m]? = some i → l[i]? = some o → ss[i]? = some s → cl[m]? = some (i, o, s)) (hnd : ci.Nodup)
    (hp : ∀ i o s, i < n → i ∉ ci → l[i]? = some o → ss[i]? = some s → ∃ r, lookR accP i = some r ∧ dutyQ P N C σ0 HT accP o s r)
    (hle : n ≤ l.length) (htail : n = l.length ∨ (Region.sinkB .any l.toArray n = true ∧ Region.chainB .any l.toArray n = true)) (hseq : Region.seqB .any l.toArray (l.length - n) n (headAll l.length n) = true)
    (hfin : ∀ listed k cacc H J L vs a w, CInv P C N n l ci cl σ0 HT accP F ρ0 I listed k cacc H J L vs a w → (∀ j, j < n → listed.getD j false = true) → wpListIn C.fen 0 P l.toArray Q' (l.drop n) a w) :
    ∀ (m : Nat) (listed : Array Bool) k cacc H J L vs a w, CInv P C N n l ci cl σ0 HT accP F ρ0 I listed k cacc H J L vs a w → unl listed n = m → wpAnyIn C.fen 0 P .any l.toArray Q' (m + (l.length - n)) listed a w
  | 0, listed, k, cacc, H, J, L, vs, a, w, inv, hm => by
    have hsz : listed.size = l.length := by simpa using inv.head.size
    have hall : ∀ j, j < n → listed.getD j false = true := fun j hj => getD_both' (by omega) (unl_zero hm j hj)
    have heq : listed = headAll l.length n := by
      refine Array.ext (by simp [headAll, hsz]) fun j h1 h2 => ?_
      have e1 : (headAll l.length n)[j]'h2 = Nat.blt j n := by simp [headAll]
      rw [e1]
      by_cases hj : j < n
      · have := hall j hj
        simp [h1] at this
        rw [this]
        exact (Nat.blt_eq ▸ hj : Nat.blt j n = true).symm
      · have := inv.head.tail j (by omega) (by simp; omega)
        simp [h1] at this
        rw [this]
        cases hb : Nat.blt j n
        · rfl
        · exact absurd (Nat.blt_eq ▸ hb : j < n) hj
    have hw := hfin listed k cacc H J L vs a w inv hall
    have h2 := wpAnyIn_of_seq (md := .any) (Q' := Q') (l.drop n) n listed a w (fun j => by simp [List.getElem?_drop]) (by rw [heq]; simpa using hseq) hw
    simpa using h2
  | m + 1, listed, k, cacc, H, J, L, vs, a, w, inv, hm => by
    have hsz : listed.size = l.length := by simpa using inv.head.size
    obtain ⟨i, hin, hi, hlt⟩ := unl_pos hm
    have hr := ready_of_least hback (by simpa using inv.head.size) hi hlt
    rw [show m + 1 + (l.length - n) = (m + (l.length - n)) + 1 by omega]
    refine ⟨fun h0 => (by rw [h0] at hr; cases hr), fun j hj => ?_⟩
    have hjn : j < n := by
      rcases Nat.lt_or_ge j n with h | h
      · exact h
      · rcases htail with ht | ⟨hs, hc⟩
        · obtain ⟨_, o, ho, _⟩ := mem_ready.1 hj
          have := (Array.getElem?_eq_some_iff.1 ho).1
          simp at this
          omega
        · have hnl : n < l.toArray.size := by
            obtain ⟨_, o, ho, _⟩ := mem_ready.1 hj
            have := (Array.getElem?_eq_some_iff.1 ho).1
            omega
          exact absurd hj (tail_waits hs hc hnl inv.head _ i rfl hin hi j h)
    refine inv.step h0 hN hok hdst hch hcl hnd hp hj hjn fun k' cacc' H' J' L' vs' a' w' inv' => ?_
    refine wpAny_C h0 hN hback hok hdst hch hcl hnd hp hle htail hseq hfin m _ k' cacc' H' J' L' vs' a' w' inv' ?_
    have hu := (mem_ready.1 hj).1
    have := unl_set hu hjn
    omega
end
def chainP (P : Program) (N : Nat) (C : Ctx) (σ0 : AEnv) {ι : Type 1} (HT : ι → AHeap) (ci : List Nat) (F : List (Nat × AV) → Prop) : List Oper → List (List (Nat × Nat)) → Nat → List (Nat × AV) → Prop
  | [], _, _, acc => F acc
  | o :: os, s :: ss, k, acc => bif ci.contains k then chainP P N C σ0 HT ci F os ss (k + 1) acc ∨ ∃ r, chainP P N C σ0 HT ci F os ss (k + 1) ((k, r) :: acc) else ∃ r, dutyQ P N C σ0 HT acc o s r ∧ chainP P N C σ0 HT ci F os ss (k + 1) ((k, r) :: acc)
  | _, [], _, _ => False
def clOf (l : List Oper) (ss : List (List (Nat × Nat))) : List Nat → List (Nat × Oper × List (Nat × Nat))
  | [] => []
  | i :: r => match l[i]?, ss[i]? with
    | some o, some s => (i, o, s) :: clOf l ss r
    | _, _ => clOf l ss r
theorem clOf_get {l : List Oper} {ss : List (List (Nat × Nat))} : ∀ (ci : List Nat), (∀ i ∈ ci, ∃ o s, l[i]? = some o ∧ ss[i]? = some s) → ∀ (m i : Nat) (o : Oper) (s : List (Nat × Nat)), ci[m]? = some i → l[i]? = some o → ss[i]? = some s → (clOf l ss ci)[m]? = some (i, o, s)
  | [], _, m, i, o, s, h, _, _ => by simp at h
  | j :: r, h0, m, i, o, s, h, h1, h2 => by
    obtain ⟨o', s', h3, h4⟩ := h0 j List.mem_cons_self
    simp only [clOf, h3, h4]
    cases m with
    | zero =>
      simp only [List.getElem?_cons_zero, Option.some.injEq] at h ⊢
      subst h
      rw [h1] at h3; rw [h2] at h4
      cases h3; cases h4; rfl
    | succ m => simpa using clOf_get r (fun i hi => h0 i (List.mem_cons_of_mem _ hi)) m i o s (by simpa using h) h1 h2
theorem chainP_elim {P : Program} {N : Nat} {C : Ctx} {σ0 : AEnv} {ι : Type 1} {HT : ι → AHeap} {ci : List Nat} {F : List (Nat × AV) → Prop} : ∀ (os : List Oper) (ss : List (List (Nat × Nat))) (k : Nat) (acc : List (Nat × AV)), (∀ j r, lookR acc j = some r → j < k) → chainP P N C σ0 HT ci F os ss k acc →
    ∃ full, F full ∧ (∀ j, j < k → lookR full j = lookR acc j) ∧
      ∀ i o s, os[i]? = some o → ss[i]? = some s → k + i ∉ ci → ∃ r acc', lookR full (k + i) = some r ∧ dutyQ P N C σ0 HT acc' o s r ∧ ∀ j, j < k + i → lookR acc' j = lookR full j
  | [], ss, k, acc, hacc, h => ⟨acc, by cases ss <;> exact h, fun _ _ => rfl, fun i o s ho => by simp at ho⟩
  | o :: os, [], k, acc, _, h => h.elim
  | o :: os, s :: ss, k, acc, hacc, h => by
    simp only [chainP] at h
    have hacc2 : ∀ r, ∀ j q, lookR ((k, r) :: acc) j = some q → j < k + 1 := fun r j q hj => by
      rw [lookR_cons] at hj
      by_cases e : k = j
      · omega
      · rw [if_neg e] at hj; have := hacc j q hj; omega
    cases hc : ci.contains k with
    | true =>
      rw [hc] at h
      simp only [cond_true] at h
      have fin : ∀ acc2, (∀ j, j < k → lookR acc2 j = lookR acc j) → (∀ j r, lookR acc2 j = some r → j < k + 1) → chainP P N C σ0 HT ci F os ss (k + 1) acc2 → ∃ full, F full ∧ (∀ j, j < k → lookR full j = lookR acc j) ∧
          ∀ i o' s', (o :: os)[i]? = some o' → (s :: ss)[i]? = some s' → k + i ∉ ci → ∃ r acc', lookR full (k + i) = some r ∧ dutyQ P N C σ0 HT acc' o' s' r ∧ ∀ j, j < k + i → lookR acc' j = lookR full j := fun acc2 ha hb h => by
        obtain ⟨full, hF, h1, h3⟩ := chainP_elim os ss (k + 1) acc2 hb h
        refine ⟨full, hF, fun j hj => (h1 j (by omega)).trans (ha j hj), fun i o' s' ho hs hni => ?_⟩
        cases i with
        | zero => exact absurd (by simpa using hc) hni
        | succ i =>
          have e : k + (i + 1) = k + 1 + i := by omega
          rw [e]
          exact h3 i o' s' (by simpa using ho) (by simpa using hs) (by rw [← e]; exact hni)
      rcases h with h | ⟨r, h⟩
      · exact fin acc (fun _ _ => rfl) (fun j r hj => Nat.lt_succ_of_lt (hacc j r hj)) h
      · exact fin ((k, r) :: acc) (fun j hj => by rw [lookR_cons, if_neg (by omega)]) (hacc2 r) h
    | false =>
      rw [hc] at h
      simp only [cond_false] at h
      obtain ⟨r, hd, h⟩ := h
      obtain ⟨full, hF, h1, h3⟩ := chainP_elim os ss (k + 1) ((k, r) :: acc) (hacc2 r) h
      refine ⟨full, hF, fun j hj => by rw [h1 j (by omega), lookR_cons, if_neg (by omega)], fun i o' s' ho hs hni => ?_⟩
      cases i with
      | zero =>
        simp only [List.getElem?_cons_zero, Option.some.injEq] at ho hs
        subst ho; subst hs
        refine ⟨r, acc, by rw [Nat.add_zero, h1 k (by omega), lookR_cons, if_pos rfl], hd, fun j hj => ?_⟩
        rw [Nat.add_zero] at hj
        rw [h1 j (by omega), lookR_cons, if_neg (by omega)]
      | succ i =>
        have e : k + (i + 1) = k + 1 + i := by omega
        rw [e]
        exact h3 i o' s' (by simpa using ho) (by simpa using hs) (by rw [← e]; exact hni)
def finV (vs : Nat → Value) : List Oper → Nat → Env → Env
  | o :: os, k, ρ => match o.dst with
    | some d => finV vs os (k + 1) ((d, vs k) :: ρ)
    | none => finV vs os (k + 1) ρ
  | [], _, ρ => ρ
theorem finV_st {C : Ctx} {J : Im} {L : Lh} {H : AHeap} {acc : List (Nat × AV)} {vs : Nat → Value} : ∀ (os : List Oper) (k : Nat) (σ : AEnv) (ρ : Env), RSt C J L σ H ρ → (∀ i o, os[i]? = some o → ∃ r, lookR acc (k + i) = some r ∧ RepV J r (vs (k + i))) →
    RSt C J L (finA acc os k σ) H (finV vs os k ρ)
  | [], k, σ, ρ, hs, _ => hs
  | o :: os, k, σ, ρ, hs, hd => by
    obtain ⟨r, h1, h2⟩ := hd 0 o rfl
    simp only [Nat.add_zero] at h1 h2
    have hd' : ∀ i o', os[i]? = some o' → ∃ r, lookR acc (k + 1 + i) = some r ∧ RepV J r (vs (k + 1 + i)) := fun i o' ho => by
      have := hd (i + 1) o' (by simpa using ho)
      rwa [show k + (i + 1) = k + 1 + i by omega] at this
    cases ho : o.dst with
    | none => simp only [finA, finV, ho]; exact finV_st os (k + 1) σ ρ hs hd'
    | some d => simp only [finA, finV, ho, h1]; exact finV_st os (k + 1) _ _ (hs.put (Le.refl J) h2 hs.heap) hd'
theorem finV_fits {N : Nat} {vs : Nat → Value} {a : Act} (hd : a.defers = []) (hsz : a.tmps.size = N) : ∀ (os : List Oper) (k : Nat) (ρ : Env),
    (∀ (i : Nat) (o : Oper) (d : Nat), os[i]? = some o → o.dst = some d → a.tmps[d]? = some (vs (k + i))) → (∀ t v, Fl.look ρ t = some v → (∀ (i : Nat) (o : Oper), os[i]? = some o → o.dst ≠ some t) → a.tmps[t]? = some v) → Fits N (finV vs os k ρ) a
  | [], k, ρ, _, h => ⟨hd, hsz, fun t v hv => h t v hv (fun i o ho => by simp at ho)⟩
  | o :: os, k, ρ, hI, hO => by
    have hI' : ∀ (i : Nat) (o' : Oper) (d : Nat), os[i]? = some o' → o'.dst = some d → a.tmps[d]? = some (vs (k + 1 + i)) := fun i o' d ho hdd => by
      have := hI (i + 1) o' d (by simpa using ho) hdd
      rwa [show k + (i + 1) = k + 1 + i by omega] at this
    cases ho : o.dst with
    | none =>
      simp only [finV, ho]
      refine finV_fits hd hsz os (k + 1) ρ hI' fun t v hv hno => hO t v hv fun i o' ho' => ?_
      cases i with
      | zero => simp only [List.getElem?_cons_zero, Option.some.injEq] at ho'; subst ho'; rw [ho]; exact fun h => by cases h
      | succ i => exact hno i o' (by simpa using ho')
    | some d =>
      simp only [finV, ho]
      refine finV_fits hd hsz os (k + 1) _ hI' fun t v hv hno => ?_
      rw [Fl.look_cons] at hv
      by_cases e : d = t
      · subst e
        rw [if_pos rfl] at hv
        cases hv
        have := hI 0 o d rfl ho
        simpa using this
      · rw [if_neg e] at hv
        refine hO t v hv fun i o' ho' => ?_
        cases i with
        | zero =>
          simp only [List.getElem?_cons_zero, Option.some.injEq] at ho'
          subst ho'
          rw [ho]
          exact fun h => e (Option.some.inj h)
        | succ i => exact hno i o' (by simpa using ho')
theorem wpA.drawCK {P : Program} {C : Ctx} {N : Nat} {Q : Exit → AEnv → AHeap → Prop} {σ : AEnv} {H : AHeap} {id : Nat} {l : List Oper} {ι : Type 1} (HT : ι → AHeap) (hm : P.follows .mixedOrders = true) (n : Nat) (ss : List (List (Nat × Nat))) (ci : List Nat)
    (hN : dstOk N l = true) (hB : phiOkC l.toArray n ss = true) (hss : Nat.ble n ss.length = true) (hC : chainOk l.toArray n ss ci = true) (hnd : ci.Nodup)
    (h : chainP P N C σ HT ci (fun accP => planK P C N σ HT accP (fun cacc H' => wpB P C N l.toArray Q (l.drop n) (finA (cacc ++ accP) (l.take n) 0 σ) H') (clOf l ss ci) [] H) (l.take n) ss 0 []) :
    wpA P C N (.region id l.toArray true) Q σ H := fun ρ I L hs a w ha hst => by
  have hB0 := hB
  simp only [phiOkC, Bool.and_eq_true, Bool.or_eq_true] at hB
  obtain ⟨⟨⟨⟨⟨hle, hback⟩, hok⟩, hdst⟩, htail⟩, hseq⟩ := hB
  have hle' : n ≤ l.length := by simpa using Nat.le_of_ble_eq_true hle
  have hok' : ∀ i, i < n → opOkC l.toArray n ss i = true := fun i hi => List.all_eq_true.1 hok i (List.mem_range.2 hi)
  have hssl := Nat.le_of_ble_eq_true hss
  obtain ⟨full, hF, _, hd⟩ := chainP_elim (l.take n) ss 0 [] (fun j r hj => by simp [lookR] at hj) h
  have hC' := hC
  unfold chainOk at hC'
  have hcin : ∀ i ∈ ci, i < n := fun i hi => by
    obtain ⟨m, hm⟩ := List.mem_iff_getElem?.1 hi
    have h1 := List.all_eq_true.1 hC' m (List.mem_range.2 (List.getElem?_eq_some_iff.1 hm).1)
    simp only [hm, Bool.and_eq_true] at h1
    simpa [Nat.blt_eq] using h1.1
  have hcl := clOf_get (l := l) (ss := ss) ci (fun i hi => ⟨_, _, List.getElem?_eq_getElem (Nat.lt_of_lt_of_le (hcin i hi) hle'), List.getElem?_eq_getElem (Nat.lt_of_lt_of_le (hcin i hi) hssl)⟩)
  have hp : ∀ i o s, i < n → i ∉ ci → l[i]? = some o → ss[i]? = some s → ∃ r, lookR full i = some r ∧ dutyQ P N C σ HT full o s r := fun i o s hi hic ho hsi => by
    obtain ⟨r, acc', h1, h2, h3⟩ := hd i o s (by rw [List.getElem?_take, if_pos hi]; exact ho) hsi (by simpa using hic)
    rw [Nat.zero_add] at h1 h3
    refine ⟨r, h1, fun H' => ?_⟩
    have hoi := hok' i hi
    unfold opOkC at hoi
    have ho' : l.toArray[i]? = some o := by simpa using ho
    simp only [ho', hsi, Bool.and_eq_true] at hoi
    have hback' : ∀ j, Region.waitsFor .any l.toArray i j = true → j < i := fun j hw => by
      obtain ⟨e, he, hb, heq⟩ := waits_mem ho' hw
      have hil : i < l.toArray.size := (Array.getElem?_eq_some_iff.1 ho').1
      have h4 := List.all_eq_true.1 hback i (List.mem_range.2 hil)
      simp only [ho', Array.all_eq_true_iff_forall_mem] at h4
      have h5 := h4 e he
      rw [hb] at h5
      have : e.on < i := by simpa [Nat.blt_eq] using h5
      omega
    -- sources that are no operand are looked at too
    have henv : ∀ t ∈ opTmps o, ∀ j, srcOf s t = some j → lookR acc' j = lookR full j := fun t ht j hj => by
      have h6 := List.all_eq_true.1 hoi.1 t ht
      unfold readOk at h6
      simp only [hj, Bool.and_eq_true] at h6
      exact h3 j (hback' j h6.2)
    have hdd := h2 H'
    unfold dutyA at hdd ⊢
    have he : ∀ ts, (∀ t ∈ ts, t ∈ opTmps o) → envOf σ acc' s ts = envOf σ full s ts := by
      intro ts
      induction ts with
      | nil => intro _; rfl
      | cons t ts ih =>
        intro hts
        simp only [envOf]
        cases hsrc : srcOf s t with
        | none => simp only [ih (fun u hu => hts u (List.mem_cons_of_mem _ hu))]
        | some j => simp only [henv t (hts t List.mem_cons_self) j hsrc, ih (fun u hu => hts u (List.mem_cons_of_mem _ hu))]
    rw [← he _ (fun t ht => ht)]
    cases hg : o.guard with
    | none => rw [hg] at hdd; exact hdd
    | some p =>
      obtain ⟨g, want⟩ := p
      rw [hg] at hdd
      have h6 := hoi.2
      rw [hg] at h6
      simp only [Bool.and_eq_true] at h6
      simp only at hdd ⊢
      rw [← h3 g (hback' g h6.1.2)]; exact hdd
  have hs' : St C I L { w with drawn := w.drawn + 1 } := ⟨⟨hst.mem.im, hst.mem.loc, hst.mem.sep, hst.mem.nodup⟩, ⟨hst.chg.os, hst.chg.tape, hst.chg.output, hst.chg.size, hst.chg.block⟩, hst.own, hst.im0, hst.new⟩
  refine wpIn_region_any hm ?_
  have inv0 : CInv P C N n l ci (clOf l ss ci) σ HT full (fun cacc H' => wpB P C N l.toArray Q (l.drop n) (finA (cacc ++ full) (l.take n) 0 σ) H') ρ I (Array.replicate l.toArray.size false) 0 [] H I L (fun _ => undef) a { w with drawn := w.drawn + 1 } := by
    have hnl : ∀ j, (Array.replicate l.toArray.size false).getD j false = true → False := fun j hl => by rw [getD_replicate_false] at hl; cases hl
    refine ⟨⟨by simp, fun j oj _ hl => (hnl j hl).elim, fun t _ ht => getD_in (by simpa using ht) (getD_replicate_false _ _)⟩, Le.refl _, hs.im0, hs', hs.heap, Nat.zero_le _, fun m i hm => ⟨fun hl => (hnl i hl).elim, fun h => by omega⟩, by rw [List.drop_zero]; exact hF, fun j r hj => by simp [lookR] at hj, fun j r r0 hj => by simp [lookR] at hj, fun j _ hl => (hnl j hl).elim, fun j _ hl => (hnl j hl).elim, ha.defers, ha.size, fun j d _ hl => (hnl j hl).elim, fun t v hv _ => ha.tmp t v hv⟩
  have hunl : unl (Array.replicate l.toArray.size false) n = n := by
    have key : ∀ k, k ≤ l.toArray.size → unl (Array.replicate l.toArray.size false) k = k := by
      intro k
      induction k with
      | zero => intro _; rfl
      | succ k ih =>
        intro hk
        rw [unl, ih (by omega), if_pos (getD_in (by simp at hk ⊢; omega) (getD_replicate_false _ _))]
    exact key n (by simpa using hle')
  have hmain := wpAny_C (Q' := liftQ C N (qA C Q)) hs hN hback hok' hdst hC hcl hnd hp hle'
    (by rcases htail with h | h
        · exact .inl (by simpa using h)
        · exact .inr h) (by simpa using hseq)
    (fun listed k cacc H' J L' vs a' w' inv hall => by
      have hk : k = ci.length := by
        rcases Nat.lt_or_ge k ci.length with h | h
        · have := (inv.ch k _ (List.getElem?_eq_getElem h)).1 (hall _ (hcin _ (List.getElem_mem h)))
          omega
        · have := inv.kle; omega
      have hpl := inv.pl
      have hlen : (clOf l ss ci).length ≤ ci.length := by
        have : ∀ c : List Nat, (clOf l ss c).length ≤ c.length := by
          intro c
          induction c with
          | nil => exact Nat.le_refl _
          | cons i c ih =>
            simp only [clOf]
            split
            · simpa using ih
            · exact Nat.le_succ_of_le ih
        exact this ci
      rw [hk, List.drop_eq_nil_of_le hlen, planK] at hpl
      replace hpl := hpl.2
      have hNd : dstOk N (l.drop n) = true := by
        simp only [dstOk, List.all_eq_true] at hN ⊢
        exact fun o ho => hN o (List.mem_of_mem_drop ho)
      have hR : RSt C J L' σ H' ρ := ⟨fun t b hb => by obtain ⟨u, h1, h2⟩ := hs.env t b hb; exact ⟨u, h1, h2.mono inv.le⟩, inv.heap, inv.im0⟩
      have hget : ∀ i o, (l.take n)[i]? = some o → i < n ∧ l[i]? = some o := fun i o ho => by
        have h1 := (List.getElem?_eq_some_iff.1 ho).1
        have hin : i < n := by rw [List.length_take] at h1; omega
        rw [List.getElem?_take, if_pos hin] at ho
        exact ⟨hin, ho⟩
      refine hpl (finV vs (l.take n) 0 ρ) J L' (finV_st (l.take n) 0 σ ρ hR fun i o ho => ?_) hNd a' w' (finV_fits inv.defers inv.size (l.take n) 0 ρ (fun i o d ho hdd => ?_) fun t v hv hno => inv.tmpO t v hv fun j hj _ hdj => ?_) inv.st
      · obtain ⟨hin, _⟩ := hget i o ho
        rw [Nat.zero_add]
        exact inv.val i hin (hall i hin)
      · obtain ⟨hin, ho2⟩ := hget i o ho
        rw [Nat.zero_add]
        exact inv.tmpI i d hin (hall i hin) (by simp [ho2, hdd])
      · have hjl : j < l.length := by omega
        have : (l.take n)[j]? = some l[j] := by rw [List.getElem?_take, if_pos hj]; exact List.getElem?_eq_getElem hjl
        refine hno j l[j] this ?_
        simpa [hjl] using hdj)
    n _ _ _ _ _ _ _ _ _ inv0 hunl
  rw [show n + (l.length - n) = l.toArray.size by simp; omega] at hmain
  exact hmain
theorem Hole.app {Hp : AHeap} {H : AHeap} {B : Bool × Blk} {F : Bool × Blk → AHeap} (h : Hole H B F) : Hole (Hp ++ H) B (fun X => Hp ++ F X) := by
  induction Hp with
  | nil => exact h
  | cons A Hp ih => exact .s ih
def famT : List Bool → AHeap → (Nat → Bool × Blk) → Nat → AHeap
  | b :: bs, B :: H, q, k => (bif b then q k else B) :: famT bs H q (k + 1)
  | _, H, _, _ => H
theorem wpA.drawCF {P : Program} {C : Ctx} {N : Nat} {Q : Exit → AEnv → AHeap → Prop} {σ : AEnv} {H : AHeap} {id : Nat} {l : List Oper} (bs : List Bool) (hm : P.follows .mixedOrders = true) (n : Nat) (ss : List (List (Nat × Nat))) (ci : List Nat)
    (hN : dstOk N l = true) (hB : phiOkC l.toArray n ss = true) (hss : Nat.ble n ss.length = true) (hC : chainOk l.toArray n ss ci = true) (hnd : ci.Nodup)
    (h : chainP P N C σ (fun q : AHeap × (Nat → Bool × Blk) => q.1 ++ famT bs H q.2 0) ci (fun accP => planK P C N σ (fun q : AHeap × (Nat → Bool × Blk) => q.1 ++ famT bs H q.2 0) accP (fun cacc H' => wpB P C N l.toArray Q (l.drop n) (finA (cacc ++ accP) (l.take n) 0 σ) H') (clOf l ss ci) [] H) (l.take n) ss 0 []) :
    wpA P C N (.region id l.toArray true) Q σ H := .drawCK _ hm n ss ci hN hB hss hC hnd h
end Go.Ab
set_option linter.unusedVariables false
namespace Go.Ab
open Go.Fl Go.RowKit
open Rep (rep)
variable {P : Program} {C : Ctx} {N : Nat} {σ : AEnv} {H : AHeap} {K : AV → Prop} {KH : AV → AHeap → Prop} {d : Option Nat} {ty : TypeId} {ps : String} {af : Array Edge} {g : Option (Nat × Bool)}
variable {x y z : Operand} {T T2 E S D U : TypeId} {o : Oper}
theorem OpH.ofP (h : OpP P N C o σ H (fun r => KH r H)) : OpH P C N o σ H KH := fun ρ I L hs =>
  OpS.ofX (OpX.monoLe (h ρ I L hs) fun v J X hle ⟨hX, r, h1, h2⟩ => by subst hX; exact ⟨hle, r, H, h1, hs.heap.mono hle, h2⟩)
theorem OpP.buildSliceF {α : Type} {r : Rep α} {i0 : Inhabited α} {n : Nat} {l : List α} {parts : Array (Nat × Operand)} (tE : TyIs P E α) (hT : P.underlying T = some (.slice E)) (hp : Elems C σ H 0 parts.toList l) (hn : l.length = n) (hb : n * Rep.size α ≤ 16777216) (k : K (.vc l)) :
    OpP P N C ⟨d, .buildSlice T n parts, ty, ps, af, g⟩ σ H K := fun ρ I L hs => by
  obtain ⟨zs, hz1, hz2⟩ := tE.zero
  obtain ⟨pv, vs, h1, h2, h3⟩ := hp.run hs
  subst hn
  have hl := h3.len
  refine OpX.frz (.buildSlice hT tE.size hz1 (Rep.len (hz2 I)) h1 h2 hl hb fun b J' hle hpp => ⟨rfl, .vc l, ⟨⟨_, rfl⟩, vs, ?_, h3.mono hle⟩, k⟩)
  refine (Own.made (e := E) hl ?_).sl (fun p hp => hpp p (by simpa using hp))
  have : 1 ≤ Rep.size α := Nat.one_le_iff_ne_zero.2 tE.pos
  have := Nat.mul_le_mul_left l.length this
  unfold maxLen; omega
theorem wpB.drop {ops : Array Oper} {Q : Exit → AEnv → AHeap → Prop} {os : List Oper} {B : Bool × Blk} (k : wpB P C N ops Q os σ H) : wpB P C N ops Q os σ (B :: H) := fun ρ I L hs => by
  obtain ⟨X, R, rfl, h1, h2⟩ := hs.heap
  exact wpL.forget (X := [X]) (k ρ I R ⟨hs.env, h2, hs.im0⟩)
theorem wpA.drop {Q : Exit → AEnv → AHeap → Prop} {c : Code} {B : Bool × Blk} (k : wpA P C N c Q σ H) : wpA P C N c Q σ (B :: H) := fun ρ I L hs => by
  obtain ⟨X, R, rfl, h1, h2⟩ := hs.heap
  exact wpS.forget (X := [X]) (k ρ I R ⟨hs.env, h2, hs.im0⟩)
theorem OpP.nilCheckL {α β : Type} {r : Rep α} {s : Rep β} {w : Value} {l : Lens α β} (hx : EvA C σ H x (.ln w l)) (k : K (.ln w l)) : OpP P N C ⟨d, .nilCheck x, ty, ps, af, g⟩ σ H K :=
  .vk k (fun ρ I L hs => by
    obtain ⟨u, h2, b, h3, rfl⟩ := hx ρ I L hs
    exact .mk ⟨b, h3, rfl⟩ fun a w ha hm => by simp [execOp, ha.ev h2])
section slStr
variable {s : Str} {i j : Int} (hT : P.underlying T = some .string) (hx : EvA C σ H x (.v s))
include hT hx
theorem OpP.slStrLo (hy : EvA C σ H y (.v i)) (h0 : 0 ≤ i) (h1 : i ≤ s.l.length) (k : K (.v (Str.mk (s.l.drop i.toNat)))) : OpP P N C ⟨d, .slice T x (some y) none none, ty, ps, af, g⟩ σ H K :=
  .slStr i.toNat s.l.length hT hx (.inr ⟨y, rfl, by rw [Int.toNat_of_nonneg h0]; exact hy⟩) (.inl ⟨rfl, rfl⟩) (by omega) (Nat.le_refl _) (by rw [List.take_length]; exact k)
theorem OpP.slStrHi (hz : EvA C σ H z (.v j)) (h0 : 0 ≤ j) (h1 : j ≤ s.l.length) (k : K (.v (Str.mk (s.l.take j.toNat)))) : OpP P N C ⟨d, .slice T x none (some z) none, ty, ps, af, g⟩ σ H K :=
  .slStr 0 j.toNat hT hx (.inl ⟨rfl, rfl⟩) (.inr ⟨z, rfl, by rw [Int.toNat_of_nonneg h0]; exact hz⟩) (by omega) (by omega) (by rw [List.drop_zero]; exact k)
theorem OpP.slStrLH (hy : EvA C σ H y (.v i)) (hz : EvA C σ H z (.v j)) (h0 : 0 ≤ i) (h1 : i ≤ j) (h2 : j ≤ s.l.length) (k : K (.v (Str.mk ((s.l.take j.toNat).drop i.toNat)))) : OpP P N C ⟨d, .slice T x (some y) (some z) none, ty, ps, af, g⟩ σ H K :=
  .slStr i.toNat j.toNat hT hx (.inr ⟨y, rfl, by rw [Int.toNat_of_nonneg h0]; exact hy⟩) (.inr ⟨z, rfl, by rw [Int.toNat_of_nonneg (by omega)]; exact hz⟩) (by omega) (by omega) k
end slStr
def AV.optU (c : Bool) (a : AV) : AV := .pr (fun I u => (c = true → RepV I a u) ∧ (c = false → u = undef)) (fun hle h => ⟨fun e => (h.1 e).mono hle, h.2⟩)
theorem EvA.ou {t : Nat} {a : AV} {c : Bool} (h : lookA σ t = some (.optU c a)) (hc : c = true) : EvA C σ H (.tmp t) a := fun ρ I L hs => by
  obtain ⟨u, h1, h2⟩ := hs.env t _ h
  exact ⟨u, h1, h2.1 hc⟩
section nested
variable {P : Program} {C : Ctx} {N : Nat} {ops : Array Oper} {Q : Exit → AEnv → AHeap → Prop} {rest : List Oper} {σ : AEnv} {H : AHeap}
theorem wpB.goU {d : Nat} {op : Op} {ty : TypeId} {ps : String} {af : Array Edge} {j : Nat} {want : Bool} (dj : Nat) (hj : (ops[j]?).bind (·.dst) = some dj) {b : Bool} (hb : EvA C σ H (.tmp dj) (.v b)) {r : AV}
    (h : b = want → OpP P N C ⟨some d, op, ty, ps, af, none⟩ σ H (fun r' => r' = r)) (k : wpB P C N ops Q rest ((d, .optU (b == want) r) :: σ) H) :
    wpB P C N ops Q (⟨some d, op, ty, ps, af, some (j, want)⟩ :: rest) σ H := fun ρ I L hs => by
  have hbv := hb.bool hs
  by_cases e : b = want
  · refine .gt dj hj (by rw [← e]; exact hbv) (OpS.ofX (OpX.monoLe (h e ρ I L hs) fun v J X hle ⟨hX, r', hr, hk⟩ => ?_))
    subst hX; subst hk
    exact k _ _ _ (hs.put hle (r := .optU (b == want) r') ⟨fun _ => hr, fun hc => absurd e (by simpa using hc)⟩ (hs.heap.mono hle))
  · have e' : b = !want := by cases b <;> cases want <;> simp_all
    exact .gf dj hj (by rw [← e']; exact hbv) (k _ _ _ (hs.put (Le.refl I) (r := .optU (b == want) r) ⟨fun hc => absurd (by simpa using hc) e, fun _ => rfl⟩ hs.heap))
theorem wpL_gu {ρ : Env} {I : Im} {L : Lh} {Q : Exit → Env → Im → Lh → Prop} {d : Nat} {op : Op} {ty : TypeId} {ps : String} {af : Array Edge} {j : Nat} {want : Bool} (dj : Nat) (hj : (ops[j]?).bind (·.dst) = some dj) (hb : Fl.look ρ dj = some undef)
    (h : wpL P C N ops Q rest ((d, undef) :: ρ) I L) : wpL P C N ops Q (⟨some d, op, ty, ps, af, some (j, want)⟩ :: rest) ρ I L := fun hd a w ha hs => by
  obtain ⟨hlt, hd'⟩ := dst_lt hd
  refine wpListIn_step fun K hK => ?_
  have hy : yielded ops a.tmps j = none := by unfold yielded; rw [hj]; simp only [Option.bind_some, ha.tmp dj _ hb]; rfl
  rw [if_neg (by simp [Region.wanted, hy])]
  exact ⟨fun _ _ => trivial, hK _ _ (h hd' _ _ (ha.put hlt undef) hs)⟩
theorem wpB.gn {d : Nat} {op : Op} {ty : TypeId} {ps : String} {af : Array Edge} {j : Nat} {want : Bool} (dj : Nat) (hj : (ops[j]?).bind (·.dst) = some dj) {b c : Bool} (hb : lookA σ dj = some (.optU c (.v b))) {r : AV}
    (h : c = true → b = want → OpP P N C ⟨some d, op, ty, ps, af, none⟩ σ H (fun r' => r' = r)) (k : wpB P C N ops Q rest ((d, .optU (c && (b == want)) r) :: σ) H) :
    wpB P C N ops Q (⟨some d, op, ty, ps, af, some (j, want)⟩ :: rest) σ H := fun ρ I L hs => by
  obtain ⟨u, hu1, hu2, hu3⟩ := hs.env dj _ hb
  cases c with
  | false =>
    obtain rfl := hu3 rfl
    exact wpL_gu dj hj hu1 (k _ _ _ (hs.put (Le.refl I) (r := .optU (false && (b == want)) r) ⟨fun hc => by simp at hc, fun _ => rfl⟩ hs.heap))
  | true =>
    have hbv : Fl.look ρ dj = some (.bool b) := by
      obtain ⟨cs, rfl, rfl⟩ := hu2 rfl
      exact hu1
    by_cases e : b = want
    · refine .gt dj hj (by rw [← e]; exact hbv) (OpS.ofX (OpX.monoLe (h rfl e ρ I L hs) fun v J X hle ⟨hX, r', hr, hk⟩ => ?_))
      subst hX; subst hk
      exact k _ _ _ (hs.put hle (r := .optU (true && (b == want)) r') ⟨fun _ => hr, fun hc => absurd e (by simpa using hc)⟩ (hs.heap.mono hle))
    · have e' : b = !want := by cases b <;> cases want <;> simp_all
      exact .gf dj hj (by rw [← e']; exact hbv) (k _ _ _ (hs.put (Le.refl I) (r := .optU (true && (b == want)) r) ⟨fun hc => absurd (by simpa using hc) e, fun _ => rfl⟩ hs.heap))
end nested
end Go.Ab
set_option linter.unusedVariables false
namespace Go.Ab
open Go.Fl Go.RowKit
open Rep (rep)
variable {P : Program} {C : Ctx} {N : Nat} {σ : AEnv} {H : AHeap} {K : AV → Prop} {KH : AV → AHeap → Prop} {d : Option Nat} {ty : TypeId} {ps : String} {af : Array Edge} {g : Option (Nat × Bool)}
variable {x y z : Operand} {T T2 E S D U : TypeId} {o : Oper}
theorem OpP.bS1 {α γ1 : Type} {r : Rep α} {i0 : Inhabited α} {q1 : Rep γ1} {offs : List (Nat × Nat)} {parts : Array (Nat × Operand)} {i1 : Nat} {o1 : Operand} {c1 : γ1} (m1 : Lens α γ1) (hg : Rep.agg α = true) (tT : TyIs P T α) (hT : fieldOffs P T = some offs) (mk : γ1 → α) (hm : ∀ c1, (m1.set c1 (default : α)) = mk c1) (hp : parts.toList = [(i1, o1)]) (h1 : offs[i1]? = some (m1.off, Rep.size γ1)) (e1 : EvA C σ H o1 (.v c1)) (k : K (.v (mk c1))) :
    OpP P N C ⟨d, .build T parts, ty, ps, af, g⟩ σ H K :=
  .buildS (mk c1) hg tT hT (by rw [hp]; exact (.cons m1 c1 h1 e1 .nil)) (hm c1) k
theorem OpP.bS2 {α γ1 γ2 : Type} {r : Rep α} {i0 : Inhabited α} {q1 : Rep γ1} {q2 : Rep γ2} {offs : List (Nat × Nat)} {parts : Array (Nat × Operand)} {i1 : Nat} {o1 : Operand} {i2 : Nat} {o2 : Operand} {c1 : γ1} {c2 : γ2} (m1 : Lens α γ1) (m2 : Lens α γ2) (hg : Rep.agg α = true) (tT : TyIs P T α) (hT : fieldOffs P T = some offs) (mk : γ1 → γ2 → α) (hm : ∀ c1 c2, (m2.set c2 (m1.set c1 (default : α))) = mk c1 c2) (hp : parts.toList = [(i1, o1), (i2, o2)]) (h1 : offs[i1]? = some (m1.off, Rep.size γ1)) (h2 : offs[i2]? = some (m2.off, Rep.size γ2)) (e1 : EvA C σ H o1 (.v c1)) (e2 : EvA C σ H o2 (.v c2)) (k : K (.v (mk c1 c2))) :
    OpP P N C ⟨d, .build T parts, ty, ps, af, g⟩ σ H K :=
  .buildS (mk c1 c2) hg tT hT (by rw [hp]; exact (.cons m1 c1 h1 e1 (.cons m2 c2 h2 e2 .nil))) (hm c1 c2) k
theorem OpP.bS3 {α γ1 γ2 γ3 : Type} {r : Rep α} {i0 : Inhabited α} {q1 : Rep γ1} {q2 : Rep γ2} {q3 : Rep γ3} {offs : List (Nat × Nat)} {parts : Array (Nat × Operand)} {i1 : Nat} {o1 : Operand} {i2 : Nat} {o2 : Operand} {i3 : Nat} {o3 : Operand} {c1 : γ1} {c2 : γ2} {c3 : γ3} (m1 : Lens α γ1) (m2 : Lens α γ2) (m3 : Lens α γ3) (hg : Rep.agg α = true) (tT : TyIs P T α) (hT : fieldOffs P T = some offs) (mk : γ1 → γ2 → γ3 → α) (hm : ∀ c1 c2 c3, (m3.set c3 (m2.set c2 (m1.set c1 (default : α)))) = mk c1 c2 c3) (hp : parts.toList = [(i1, o1), (i2, o2), (i3, o3)]) (h1 : offs[i1]? = some (m1.off, Rep.size γ1)) (h2 : offs[i2]? = some (m2.off, Rep.size γ2)) (h3 : offs[i3]? = some (m3.off, Rep.size γ3)) (e1 : EvA C σ H o1 (.v c1)) (e2 : EvA C σ H o2 (.v c2)) (e3 : EvA C σ H o3 (.v c3)) (k : K (.v (mk c1 c2 c3))) :
    OpP P N C ⟨d, .build T parts, ty, ps, af, g⟩ σ H K :=
  .buildS (mk c1 c2 c3) hg tT hT (by rw [hp]; exact (.cons m1 c1 h1 e1 (.cons m2 c2 h2 e2 (.cons m3 c3 h3 e3 .nil)))) (hm c1 c2 c3) k
theorem OpP.bS4 {α γ1 γ2 γ3 γ4 : Type} {r : Rep α} {i0 : Inhabited α} {q1 : Rep γ1} {q2 : Rep γ2} {q3 : Rep γ3} {q4 : Rep γ4} {offs : List (Nat × Nat)} {parts : Array (Nat × Operand)} {i1 : Nat} {o1 : Operand} {i2 : Nat} {o2 : Operand} {i3 : Nat} {o3 : Operand} {i4 : Nat} {o4 : Operand} {c1 : γ1} {c2 : γ2} {c3 : γ3} {c4 : γ4} (m1 : Lens α γ1) (m2 : Lens α γ2) (m3 : Lens α γ3) (m4 : Lens α γ4) (hg : Rep.agg α = true) (tT : TyIs P T α) (hT : fieldOffs P T = some offs) (mk : γ1 → γ2 → γ3 → γ4 → α) (hm : ∀ c1 c2 c3 c4, (m4.set c4 (m3.set c3 (m2.set c2 (m1.set c1 (default : α))))) = mk c1 c2 c3 c4) (hp : parts.toList = [(i1, o1), (i2, o2), (i3, o3), (i4, o4)]) (h1 : offs[i1]? = some (m1.off, Rep.size γ1)) (h2 : offs[i2]? = some (m2.off, Rep.size γ2)) (h3 : offs[i3]? = some (m3.off, Rep.size γ3)) (h4 : offs[i4]? = some (m4.off, Rep.size γ4)) (e1 : EvA C σ H o1 (.v c1)) (e2 : EvA C σ H o2 (.v c2)) (e3 : EvA C σ H o3 (.v c3)) (e4 : EvA C σ H o4 (.v c4)) (k : K (.v (mk c1 c2 c3 c4))) :
    OpP P N C ⟨d, .build T parts, ty, ps, af, g⟩ σ H K :=
  .buildS (mk c1 c2 c3 c4) hg tT hT (by rw [hp]; exact (.cons m1 c1 h1 e1 (.cons m2 c2 h2 e2 (.cons m3 c3 h3 e3 (.cons m4 c4 h4 e4 .nil))))) (hm c1 c2 c3 c4) k
theorem OpP.bS7 {α γ1 γ2 γ3 γ4 γ5 γ6 γ7 : Type} {r : Rep α} {i0 : Inhabited α} {q1 : Rep γ1} {q2 : Rep γ2} {q3 : Rep γ3} {q4 : Rep γ4} {q5 : Rep γ5} {q6 : Rep γ6} {q7 : Rep γ7} {offs : List (Nat × Nat)} {parts : Array (Nat × Operand)} {i1 : Nat} {o1 : Operand} {i2 : Nat} {o2 : Operand} {i3 : Nat} {o3 : Operand} {i4 : Nat} {o4 : Operand} {i5 : Nat} {o5 : Operand} {i6 : Nat} {o6 : Operand} {i7 : Nat} {o7 : Operand} {c1 : γ1} {c2 : γ2} {c3 : γ3} {c4 : γ4} {c5 : γ5} {c6 : γ6} {c7 : γ7} (m1 : Lens α γ1) (m2 : Lens α γ2) (m3 : Lens α γ3) (m4 : Lens α γ4) (m5 : Lens α γ5) (m6 : Lens α γ6) (m7 : Lens α γ7) (hg : Rep.agg α = true) (tT : TyIs P T α) (hT : fieldOffs P T = some offs) (mk : γ1 → γ2 → γ3 → γ4 → γ5 → γ6 → γ7 → α) (hm : ∀ c1 c2 c3 c4 c5 c6 c7, (m7.set c7 (m6.set c6 (m5.set c5 (m4.set c4 (m3.set c3 (m2.set c2 (m1.set c1 (default : α)))))))) = mk c1 c2 c3 c4 c5 c6 c7) (hp : parts.toList = [(i1, o1), (i2, o2), (i3, o3), (i4, o4), (i5, o5), (i6, o6), (i7, o7)]) (h1 : offs[i1]? = some (m1.off, Rep.size γ1)) (h2 : offs[i2]? = some (m2.off, Rep.size γ2)) (h3 : offs[i3]? = some (m3.off, Rep.size γ3)) (h4 : offs[i4]? = some (m4.off, Rep.size γ4)) (h5 : offs[i5]? = some (m5.off, Rep.size γ5)) (h6 : offs[i6]? = some (m6.off, Rep.size γ6)) (h7 : offs[i7]? = some (m7.off, Rep.size γ7)) (e1 : EvA C σ H o1 (.v c1)) (e2 : EvA C σ H o2 (.v c2)) (e3 : EvA C σ H o3 (.v c3)) (e4 : EvA C σ H o4 (.v c4)) (e5 : EvA C σ H o5 (.v c5)) (e6 : EvA C σ H o6 (.v c6)) (e7 : EvA C σ H o7 (.v c7)) (k : K (.v (mk c1 c2 c3 c4 c5 c6 c7))) :
    OpP P N C ⟨d, .build T parts, ty, ps, af, g⟩ σ H K :=
  .buildS (mk c1 c2 c3 c4 c5 c6 c7) hg tT hT (by rw [hp]; exact (.cons m1 c1 h1 e1 (.cons m2 c2 h2 e2 (.cons m3 c3 h3 e3 (.cons m4 c4 h4 e4 (.cons m5 c5 h5 e5 (.cons m6 c6 h6 e6 (.cons m7 c7 h7 e7 .nil)))))))) (hm c1 c2 c3 c4 c5 c6 c7) k
theorem OpP.bS0 {α : Type} {r : Rep α} {i0 : Inhabited α} {offs : List (Nat × Nat)} (hg : Rep.agg α = true) (tT : TyIs P T α) (hT : fieldOffs P T = some offs) (k : K (.v (default : α))) : OpP P N C ⟨d, .build T #[], ty, ps, af, g⟩ σ H K := .buildS default hg tT hT .nil rfl k
theorem OpP.fldW {β γ : Type} {s : Rep β} {q : Rep γ} {i off sz : Nat} {ag : Bool} {w : Value} (m : Lens β γ) (hf : fieldOff P T i = some (off, sz + 1, ag)) (ho : off = m.off) (hx : EvA C σ H x (.ln w (Lens.id (α := β)))) (k : K (.ln w m)) :
    OpP P N C ⟨d, .fieldAddr T x i, ty, ps, af, g⟩ σ H K :=
  .vk k (fun ρ I L hs => by
    obtain ⟨u, h2, b, h3, rfl⟩ := hx ρ I L hs
    subst ho
    exact .fieldAddr hf h2 ⟨b, h3, by simp [Lens.id]⟩)
theorem OpP.idxW {β : Type} {s : Rep β} {n : Nat} {ag : Bool} {w : Value} {i : Int} (hf : elemOff P T = some (n, Rep.size β, ag)) (hx : EvA C σ H x (.ln w (Lens.id (α := Arr n β)))) (hy : EvA C σ H y (.v i)) (h0 : 0 ≤ i) (h1 : i < n)
    (k : K (.ln w (Lens.idx (α := β) (n := n) i.toNat (by omega)))) : OpP P N C ⟨d, .indexAddr T x y, ty, ps, af, g⟩ σ H K :=
  .vk k (fun ρ I L hs => by
    obtain ⟨u, h2, b, h3, rfl⟩ := hx ρ I L hs
    exact .indexAddrA hf h2 (hy.int hs).1 h0 h1 ⟨b, h3, by simp [Lens.id, Lens.idx]⟩)
theorem OpP.ldF {α β : Type} {r : Rep α} {s : Rep β} {i : Inhabited β} {w : Value} {l : Lens α β} {a : α} {bb : Bool} {F : Bool × Blk → AHeap} (f : α → β) (tT : TyIs P T β) (hx : EvA C σ H x (.ln w l)) (hH : Hole H (bb, .ob w a) F) (hf : ∀ x, l.get x = f x) (k : K (.v (f a))) :
    OpP P N C ⟨d, .load T x, ty, ps, af, g⟩ σ H K := .ldL tT hx hH (hf a ▸ k)
theorem OpH.stF {α β : Type} {r : Rep α} {s : Rep β} {i : Inhabited β} {w : Value} {l : Lens α β} {a : α} {c : β} {bb : Bool} {F : Bool × Blk → AHeap} (f : β → α → α) (tT : TyIs P T β) (hx : EvA C σ H x (.ln w l)) (hy : EvA C σ H y (.v c)) (hH : Hole H (bb, .ob w a) F) (hf : ∀ y x, l.set y x = f y x)
    (k : KH .any (F (bb, .ob w (f c a)))) : OpH P C N ⟨d, .store T x y, ty, ps, af, g⟩ σ H KH := .stL tT hx hy hH (hf c a ▸ k)
theorem OpP.ldEW {α : Type} {r : Rep α} {i : Inhabited α} {w : Value} {ags : List α} {kk : Nat} {bb : Bool} {E' : TypeId} {F : Bool × Blk → AHeap} (tT : TyIs P T α) (hx : EvA C σ H x (.el w kk (Lens.id (α := α)))) (hH : Hole H (bb, .own E' w ags) F) (hk : kk < ags.length)
    (k : K (.v ags[kk])) : OpP P N C ⟨d, .load T x, ty, ps, af, g⟩ σ H K := .ldE tT hx hH hk k
theorem OpP.fldPF {β γ : Type} {s : Rep β} {q : Rep γ} {i off sz : Nat} {ag : Bool} {a : β} (m : Lens β γ) (f : β → γ) (hf : fieldOff P T i = some (off, sz + 1, ag)) (ho : off = m.off) (hm : ∀ x, m.get x = f x) (hx : EvA C σ H x (.p a)) (k : K (.p (f a))) :
    OpP P N C ⟨d, .fieldAddr T x i, ty, ps, af, g⟩ σ H K := .fldP m hf ho hx (hm a ▸ k)
end Go.Ab
set_option linter.unusedVariables false
set_option linter.unusedSimpArgs false
namespace Go.Ab
open Go.Fl Go.RowKit
open Rep (rep)
structure FnV where
  f : Option FuncId
instance : Inhabited FnV := ⟨⟨none⟩⟩
instance : Rep FnV where
  size := 1
  agg := false
  rep _ x cs := cs = [match x.f with | none => .nilFunc | some k => .func (.func k) #[] #[]]
  len h := by simp [h]
  mono _ h := h
  one _ := rfl
  flat {I x cs} h := by cases x with | mk f => cases f <;> simp [h, ones, Value.oneCell']
instance : RepZ FnV := ⟨[.nilFunc], fun _ => rfl⟩
end Go.Ab
set_option maxRecDepth 1000000
set_option linter.unusedVariables false
namespace Go.Mac
open Go.Ab
structure G_api_Predicate where
  Kind : Int
  Mask : UInt64
  From : Int
  To : Int
  Name : Str
  Number : Int
def G_api_Predicate.f (x : G_api_Predicate) : Int × UInt64 × Int × Int × Str × Int × Unit := (x.Kind, x.Mask, x.From, x.To, x.Name, x.Number, ())
instance : Inhabited G_api_Predicate := ⟨⟨default, default, default, default, default, default⟩⟩
instance : DecidableEq G_api_Predicate := fun a b => decidable_of_iff (a.Kind = b.Kind ∧ a.Mask = b.Mask ∧ a.From = b.From ∧ a.To = b.To ∧ a.Name = b.Name ∧ a.Number = b.Number) (by cases a; cases b; simp)
instance : Rep G_api_Predicate := Rep.via G_api_Predicate.f
instance : RepZ G_api_Predicate := RepZ.via G_api_Predicate.f rfl
def G_api_Predicate.l0 : Lens G_api_Predicate Int := Lens.via G_api_Predicate.f Lens.fst (fun x => x.Kind) (fun y x => { x with Kind := y }) (fun _ => rfl) (fun _ _ => rfl)
def G_api_Predicate.l1 : Lens G_api_Predicate UInt64 := Lens.via G_api_Predicate.f (Lens.snd.comp Lens.fst) (fun x => x.Mask) (fun y x => { x with Mask := y }) (fun _ => rfl) (fun _ _ => rfl)
def G_api_Predicate.l2 : Lens G_api_Predicate Int := Lens.via G_api_Predicate.f (Lens.snd.comp (Lens.snd.comp Lens.fst)) (fun x => x.From) (fun y x => { x with From := y }) (fun _ => rfl) (fun _ _ => rfl)
def G_api_Predicate.l3 : Lens G_api_Predicate Int := Lens.via G_api_Predicate.f (Lens.snd.comp (Lens.snd.comp (Lens.snd.comp Lens.fst))) (fun x => x.To) (fun y x => { x with To := y }) (fun _ => rfl) (fun _ _ => rfl)
def G_api_Predicate.l4 : Lens G_api_Predicate Str := Lens.via G_api_Predicate.f (Lens.snd.comp (Lens.snd.comp (Lens.snd.comp (Lens.snd.comp Lens.fst)))) (fun x => x.Name) (fun y x => { x with Name := y }) (fun _ => rfl) (fun _ _ => rfl)
def G_api_Predicate.l5 : Lens G_api_Predicate Int := Lens.via G_api_Predicate.f (Lens.snd.comp (Lens.snd.comp (Lens.snd.comp (Lens.snd.comp (Lens.snd.comp Lens.fst))))) (fun x => x.Number) (fun y x => { x with Number := y }) (fun _ => rfl) (fun _ _ => rfl)
structure G_api_Terms where
  Least : Int
  Most : Int
def G_api_Terms.f (x : G_api_Terms) : Int × Int × Unit := (x.Least, x.Most, ())
instance : Inhabited G_api_Terms := ⟨⟨default, default⟩⟩
instance : DecidableEq G_api_Terms := fun a b => decidable_of_iff (a.Least = b.Least ∧ a.Most = b.Most) (by cases a; cases b; simp)
instance : Rep G_api_Terms := Rep.via G_api_Terms.f
instance : RepZ G_api_Terms := RepZ.via G_api_Terms.f rfl
def G_api_Terms.l0 : Lens G_api_Terms Int := Lens.via G_api_Terms.f Lens.fst (fun x => x.Least) (fun y x => { x with Least := y }) (fun _ => rfl) (fun _ _ => rfl)
def G_api_Terms.l1 : Lens G_api_Terms Int := Lens.via G_api_Terms.f (Lens.snd.comp Lens.fst) (fun x => x.Most) (fun y x => { x with Most := y }) (fun _ => rfl) (fun _ _ => rfl)
structure G_api_Context where
  Zone : Int
  Line : Int
  Minute : Int
  Holder : Str
def G_api_Context.f (x : G_api_Context) : Int × Int × Int × Str × Unit := (x.Zone, x.Line, x.Minute, x.Holder, ())
instance : Inhabited G_api_Context := ⟨⟨default, default, default, default⟩⟩
instance : DecidableEq G_api_Context := fun a b => decidable_of_iff (a.Zone = b.Zone ∧ a.Line = b.Line ∧ a.Minute = b.Minute ∧ a.Holder = b.Holder) (by cases a; cases b; simp)
instance : Rep G_api_Context := Rep.via G_api_Context.f
instance : RepZ G_api_Context := RepZ.via G_api_Context.f rfl
def G_api_Context.l0 : Lens G_api_Context Int := Lens.via G_api_Context.f Lens.fst (fun x => x.Zone) (fun y x => { x with Zone := y }) (fun _ => rfl) (fun _ _ => rfl)
def G_api_Context.l1 : Lens G_api_Context Int := Lens.via G_api_Context.f (Lens.snd.comp Lens.fst) (fun x => x.Line) (fun y x => { x with Line := y }) (fun _ => rfl) (fun _ _ => rfl)
def G_api_Context.l3 : Lens G_api_Context Str := Lens.via G_api_Context.f (Lens.snd.comp (Lens.snd.comp (Lens.snd.comp Lens.fst))) (fun x => x.Holder) (fun y x => { x with Holder := y }) (fun _ => rfl) (fun _ _ => rfl)
structure G_api_Step where
  Kind : Int
  A : Int
  B : Int
  N : Int
  Predicates : (List G_api_Predicate)
  Terms : G_api_Terms
  Holder : Str
  Context : G_api_Context
def G_api_Step.f (x : G_api_Step) : Int × Int × Int × Int × (List G_api_Predicate) × G_api_Terms × Str × G_api_Context × Unit := (x.Kind, x.A, x.B, x.N, x.Predicates, x.Terms, x.Holder, x.Context, ())
instance : Inhabited G_api_Step := ⟨⟨default, default, default, default, default, default, default, default⟩⟩
instance : DecidableEq G_api_Step := fun a b => decidable_of_iff (a.Kind = b.Kind ∧ a.A = b.A ∧ a.B = b.B ∧ a.N = b.N ∧ a.Predicates = b.Predicates ∧ a.Terms = b.Terms ∧ a.Holder = b.Holder ∧ a.Context = b.Context) (by cases a; cases b; simp)
instance : Rep G_api_Step := Rep.via G_api_Step.f
instance : RepZ G_api_Step := RepZ.via G_api_Step.f rfl
def G_api_Step.l0 : Lens G_api_Step Int := Lens.via G_api_Step.f Lens.fst (fun x => x.Kind) (fun y x => { x with Kind := y }) (fun _ => rfl) (fun _ _ => rfl)
def G_api_Step.l1 : Lens G_api_Step Int := Lens.via G_api_Step.f (Lens.snd.comp Lens.fst) (fun x => x.A) (fun y x => { x with A := y }) (fun _ => rfl) (fun _ _ => rfl)
def G_api_Step.l2 : Lens G_api_Step Int := Lens.via G_api_Step.f (Lens.snd.comp (Lens.snd.comp Lens.fst)) (fun x => x.B) (fun y x => { x with B := y }) (fun _ => rfl) (fun _ _ => rfl)
def G_api_Step.l3 : Lens G_api_Step Int := Lens.via G_api_Step.f (Lens.snd.comp (Lens.snd.comp (Lens.snd.comp Lens.fst))) (fun x => x.N) (fun y x => { x with N := y }) (fun _ => rfl) (fun _ _ => rfl)
def G_api_Step.l4 : Lens G_api_Step (List G_api_Predicate) := Lens.via G_api_Step.f (Lens.snd.comp (Lens.snd.comp (Lens.snd.comp (Lens.snd.comp Lens.fst)))) (fun x => x.Predicates) (fun y x => { x with Predicates := y }) (fun _ => rfl) (fun _ _ => rfl)
def G_api_Step.l5 : Lens G_api_Step G_api_Terms := Lens.via G_api_Step.f (Lens.snd.comp (Lens.snd.comp (Lens.snd.comp (Lens.snd.comp (Lens.snd.comp Lens.fst))))) (fun x => x.Terms) (fun y x => { x with Terms := y }) (fun _ => rfl) (fun _ _ => rfl)
def G_api_Step.l6 : Lens G_api_Step Str := Lens.via G_api_Step.f (Lens.snd.comp (Lens.snd.comp (Lens.snd.comp (Lens.snd.comp (Lens.snd.comp (Lens.snd.comp Lens.fst)))))) (fun x => x.Holder) (fun y x => { x with Holder := y }) (fun _ => rfl) (fun _ _ => rfl)
def G_api_Step.l7 : Lens G_api_Step G_api_Context := Lens.via G_api_Step.f (Lens.snd.comp (Lens.snd.comp (Lens.snd.comp (Lens.snd.comp (Lens.snd.comp (Lens.snd.comp (Lens.snd.comp Lens.fst))))))) (fun x => x.Context) (fun y x => { x with Context := y }) (fun _ => rfl) (fun _ _ => rfl)
structure G_api_Person where
  Name : Str
  Born : Int
def G_api_Person.f (x : G_api_Person) : Str × Int × Unit := (x.Name, x.Born, ())
instance : Inhabited G_api_Person := ⟨⟨default, default⟩⟩
instance : Rep G_api_Person := Rep.via G_api_Person.f
instance : RepZ G_api_Person := RepZ.via G_api_Person.f rfl
def G_api_Person.l0 : Lens G_api_Person Str := Lens.via G_api_Person.f Lens.fst (fun x => x.Name) (fun y x => { x with Name := y }) (fun _ => rfl) (fun _ _ => rfl)
def G_api_Person.l1 : Lens G_api_Person Int := Lens.via G_api_Person.f (Lens.snd.comp Lens.fst) (fun x => x.Born) (fun y x => { x with Born := y }) (fun _ => rfl) (fun _ _ => rfl)
structure G_api_Config where
  Free : Bool
  Seed : (Arr 32 UInt8)
  Gates : Int
  Wallets : Int
  Parties : Int
  Capacity : Int
  Persons : (List G_api_Person)
def G_api_Config.f (x : G_api_Config) : Bool × (Arr 32 UInt8) × Int × Int × Int × Int × (List G_api_Person) × Unit := (x.Free, x.Seed, x.Gates, x.Wallets, x.Parties, x.Capacity, x.Persons, ())
instance : Inhabited G_api_Config := ⟨⟨default, default, default, default, default, default, default⟩⟩
instance : Rep G_api_Config := Rep.via G_api_Config.f
instance : RepZ G_api_Config := RepZ.via G_api_Config.f rfl
def G_api_Config.l0 : Lens G_api_Config Bool := Lens.via G_api_Config.f Lens.fst (fun x => x.Free) (fun y x => { x with Free := y }) (fun _ => rfl) (fun _ _ => rfl)
def G_api_Config.l1 : Lens G_api_Config (Arr 32 UInt8) := Lens.via G_api_Config.f (Lens.snd.comp Lens.fst) (fun x => x.Seed) (fun y x => { x with Seed := y }) (fun _ => rfl) (fun _ _ => rfl)
def G_api_Config.l2 : Lens G_api_Config Int := Lens.via G_api_Config.f (Lens.snd.comp (Lens.snd.comp Lens.fst)) (fun x => x.Gates) (fun y x => { x with Gates := y }) (fun _ => rfl) (fun _ _ => rfl)
def G_api_Config.l3 : Lens G_api_Config Int := Lens.via G_api_Config.f (Lens.snd.comp (Lens.snd.comp (Lens.snd.comp Lens.fst))) (fun x => x.Wallets) (fun y x => { x with Wallets := y }) (fun _ => rfl) (fun _ _ => rfl)
def G_api_Config.l4 : Lens G_api_Config Int := Lens.via G_api_Config.f (Lens.snd.comp (Lens.snd.comp (Lens.snd.comp (Lens.snd.comp Lens.fst)))) (fun x => x.Parties) (fun y x => { x with Parties := y }) (fun _ => rfl) (fun _ _ => rfl)
def G_api_Config.l5 : Lens G_api_Config Int := Lens.via G_api_Config.f (Lens.snd.comp (Lens.snd.comp (Lens.snd.comp (Lens.snd.comp (Lens.snd.comp Lens.fst))))) (fun x => x.Capacity) (fun y x => { x with Capacity := y }) (fun _ => rfl) (fun _ _ => rfl)
def G_api_Config.l6 : Lens G_api_Config (List G_api_Person) := Lens.via G_api_Config.f (Lens.snd.comp (Lens.snd.comp (Lens.snd.comp (Lens.snd.comp (Lens.snd.comp (Lens.snd.comp Lens.fst)))))) (fun x => x.Persons) (fun y x => { x with Persons := y }) (fun _ => rfl) (fun _ _ => rfl)
structure G_macaroonmade_Deck where
  L : (List Int)
  At : Int
def G_macaroonmade_Deck.f (x : G_macaroonmade_Deck) : (List Int) × Int × Unit := (x.L, x.At, ())
instance : Inhabited G_macaroonmade_Deck := ⟨⟨default, default⟩⟩
instance : Rep G_macaroonmade_Deck := Rep.via G_macaroonmade_Deck.f
instance : RepZ G_macaroonmade_Deck := RepZ.via G_macaroonmade_Deck.f rfl
def G_macaroonmade_Deck.l0 : Lens G_macaroonmade_Deck (List Int) := Lens.via G_macaroonmade_Deck.f Lens.fst (fun x => x.L) (fun y x => { x with L := y }) (fun _ => rfl) (fun _ _ => rfl)
def G_macaroonmade_Deck.l1 : Lens G_macaroonmade_Deck Int := Lens.via G_macaroonmade_Deck.f (Lens.snd.comp Lens.fst) (fun x => x.At) (fun y x => { x with At := y }) (fun _ => rfl) (fun _ _ => rfl)
structure G_script_form where
  word : Str
  numbers : FnV
  predicates : Bool
  holder : Bool
def G_script_form.f (x : G_script_form) : Str × FnV × Bool × Bool × Unit := (x.word, x.numbers, x.predicates, x.holder, ())
instance : Inhabited G_script_form := ⟨⟨default, default, default, default⟩⟩
instance : Rep G_script_form := Rep.via G_script_form.f
instance : RepZ G_script_form := RepZ.via G_script_form.f rfl
def G_script_form.l0 : Lens G_script_form Str := Lens.via G_script_form.f Lens.fst (fun x => x.word) (fun y x => { x with word := y }) (fun _ => rfl) (fun _ _ => rfl)
def G_script_form.l1 : Lens G_script_form FnV := Lens.via G_script_form.f (Lens.snd.comp Lens.fst) (fun x => x.numbers) (fun y x => { x with numbers := y }) (fun _ => rfl) (fun _ _ => rfl)
def G_script_form.l2 : Lens G_script_form Bool := Lens.via G_script_form.f (Lens.snd.comp (Lens.snd.comp Lens.fst)) (fun x => x.predicates) (fun y x => { x with predicates := y }) (fun _ => rfl) (fun _ _ => rfl)
def G_script_form.l3 : Lens G_script_form Bool := Lens.via G_script_form.f (Lens.snd.comp (Lens.snd.comp (Lens.snd.comp Lens.fst))) (fun x => x.holder) (fun y x => { x with holder := y }) (fun _ => rfl) (fun _ _ => rfl)
structure G_errors_errorString where
  s : Str
end Go.Mac
set_option linter.unusedVariables false
namespace Go.Ab
open Go.Fl Go.RowKit
open Rep (rep)
def Clo (P : Program) {ι : Type} (ags : ι → List AV) (r : ι → AV) (I : Im) (u : Value) : Prop :=
  ∃ f fi ca, u = .func (.func f) fi ca ∧ ∀ J, Le I J → ∀ i vs, RepVs J (ags i) vs → Fun P f (fi ++ vs.toArray ++ ca) J (fun v K => RepV K (r i) v)
theorem Clo.mono {P : Program} {ι : Type} {ags : ι → List AV} {r : ι → AV} {I J : Im} {u : Value} (hle : Le I J) (h : Clo P ags r I u) : Clo P ags r J u := by
  obtain ⟨f, fi, ca, h1, h2⟩ := h
  exact ⟨f, fi, ca, h1, fun K hk => h2 K (hle.trans hk)⟩
def AV.clo (P : Program) {ι : Type} (ags : ι → List AV) (r : ι → AV) : AV := .pr (Clo P ags r) Clo.mono
def AV.clo1 (P : Program) {α β : Type} [Rep α] [Rep β] (g : α → β) : AV := .clo P (fun x : α => [.v x]) (fun x => .v (g x))
theorem run_callClo {P : Program} {f : FuncId} {fi ca : Array Value} (ok : CallOk P f) {a : Act} {w : World} {o : Oper} {F : Operand} {args : Array Operand} {tys : Array TypeId} (ho : o.op = .call ⟨.value F, args, tys⟩)
    (hF : a.eval F = .func (.func f) fi ca) {vs : List Value} (hv : args.toList.map a.eval = vs) : (execOp a.eval o).run P w = .ok (.enter f (fi ++ vs.toArray ++ ca)) w := by
  obtain ⟨fn, h1, h2, h3⟩ := ok.ok
  subst hv
  have hargs : args.map a.eval = (args.toList.map a.eval).toArray := by cases args; simp
  have h2' : ¬ fn.name = "runtime.NumGoroutine" := by simpa using h2
  have h3' : fn.body ≠ none := by intro e; simp [e] at h3
  simp [execOp, ho, resolve, Deferred.ofValue, hF, invoke, callFunc, program, Sem.run, h1, h2', h3', ← hargs]
theorem OpX.callC {P : Program} {N : Nat} {ρ : Env} {I : Im} {L : Lh} {f : FuncId} {fi ca : Array Value} {d : Option Nat} {F : Operand} {args : Array Operand} {tys : Array TypeId} {ty : TypeId} {ps : String} {af : Array Edge} {g : Option (Nat × Bool)} {vs : List Value}
    {post : Value → Im → Prop} {K : Value → Im → Lh → Prop} (hF : ev ρ F = some (.func (.func f) fi ca)) (hv : evL ρ args.toList = some vs) (h : Fun P f (fi ++ vs.toArray ++ ca) I post)
    (k : ∀ v J, Le I J → post v J → K v J []) : OpX P N ⟨d, .call ⟨.value F, args, tys⟩, ty, ps, af, g⟩ ρ I L K := fun a w ha hm => by
  rw [run_callClo h.ok rfl (ha.ev hF) (ha.evL hv)]
  refine (h.run w hm.drop).mono ?_
  rintro e w' ⟨v, J, rfl, hc, hle, hn, hm', hp⟩
  refine ⟨v, rfl, J, [], hc, hle, hn, ?_, by simp, k v J hle hp⟩
  have hlt : ∀ p ∈ L.flatten, p.1 < w.heap.size := fun p hp => lt_of_get (hm.loc p hp)
  refine ⟨hm'.im, fun p hp => (hc.block p.1 (hlt p hp) (by simp)).trans (hm.loc p hp), fun p hp => ?_, hm.nodup⟩
  cases hj : J p.1 with
  | none => rfl
  | some o => exact absurd (hn p.1 (hm.sep p hp) (by simp [hj])) (by have := hlt p hp; omega)
section clo
variable {P : Program} {C : Ctx} {N : Nat} {σ : AEnv} {H : AHeap} {G : Gl} {f : FuncId} {d : Option Nat} {args : Array Operand} {tys : Array TypeId} {ty : TypeId} {ps : String} {af : Array Edge} {g : Option (Nat × Bool)} {K : AV → Prop}
theorem OpP.callClo {ι : Type} {ags : ι → List AV} {r : ι → AV} {t : Nat} (i : ι) (ht : lookA σ t = some (.clo P ags r)) (hv : EvAs C σ H args.toList (ags i)) (k : K (r i)) :
    OpP P N C ⟨d, .call ⟨.value (.tmp t), args, tys⟩, ty, ps, af, g⟩ σ H K := fun ρ I L hs => by
  obtain ⟨u, h1, f, fi, ca, rfl, h2⟩ := hs.env t _ ht
  obtain ⟨vs, h3, h4⟩ := hv.get hs
  exact OpX.callC (F := .tmp t) h1 h3 (h2 I (Le.refl I) i vs h4) fun v J hle h5 => ⟨rfl, r i, h5, k⟩
theorem OpP.callClo1 {α β : Type} [Rep α] [Rep β] {g1 : α → β} {x : α} {t : Nat} {a : Operand} (ht : lookA σ t = some (.clo1 P g1)) (ha : EvA C σ H a (.v x)) (k : K (.v (g1 x))) :
    OpP P N C ⟨d, .call ⟨.value (.tmp t), #[a], tys⟩, ty, ps, af, g⟩ σ H K := .callClo (ags := fun x : α => [.v x]) (r := fun x => .v (g1 x)) x ht (.cons ha .nil) k
theorem RepVs.append {I : Im} : ∀ {ags bs : List AV} {vs ws : List Value}, RepVs I ags vs → RepVs I bs ws → RepVs I (ags ++ bs) (vs ++ ws)
  | [], _, _, _, h, k => by simp [RepVs] at h; subst h; simpa using k
  | a :: ags, _, _, _, h, k => by obtain ⟨v, r, rfl, h2, h3⟩ := h; exact ⟨v, r ++ _, rfl, h2, h3.append k⟩
theorem OpP.mkClo (hG : G.p C.I0) {ι : Type} {ags : ι → List AV} {r : ι → AV} {caps : List AV} (h : ∀ i, FunA G P f (ags i ++ caps) (fun x => x = r i)) (hv : EvAs C σ H args.toList caps) (k : K (.clo P ags r)) :
    OpP P N C ⟨d, .makeFunc (.func f) #[] args, ty, ps, af, g⟩ σ H K := .ofV (.clo P ags r) (fun ρ I L hs => fun a w ha hm => by
      obtain ⟨vs, h1, h2⟩ := hv.get hs
      have e := ha.evL h1
      have hargs : args.map a.eval = vs.toArray := by rw [← e]; cases args; simp
      refine ⟨.func (.func f) #[] vs.toArray, ⟨f, #[], vs.toArray, rfl, fun J hle i ws hw => ?_⟩, by simp [execOp, Instr.makeFunc, hargs]⟩
      have h3 := h i J (ws ++ vs) (G.mono (hs.im0.trans hle) hG) (hw.append (h2.mono hle))
      simp only [List.append_toArray]
      exact h3.mono fun v K _ ⟨x, h4, h5⟩ => h5 ▸ h4) k
theorem OpP.mkClo1 (hG : G.p C.I0) {α β : Type} [Rep α] [Rep β] {g1 : α → β} {caps : List AV} (h : ∀ x, FunA G P f (.v x :: caps) (fun r => r = .v (g1 x))) (hv : EvAs C σ H args.toList caps) (k : K (.clo1 P g1)) :
    OpP P N C ⟨d, .makeFunc (.func f) #[] args, ty, ps, af, g⟩ σ H K := .mkClo hG (ags := fun x : α => [.v x]) (r := fun x => .v (g1 x)) h hv k
theorem EvA.cloF (hG : G.p C.I0) {ι : Type} {ags : ι → List AV} {r : ι → AV} (h : ∀ i, FunA G P f (ags i) (fun x => x = r i)) : EvA C σ H (.func f) (.clo P ags r) := fun ρ I L hs =>
  ⟨_, rfl, f, #[], #[], rfl, fun J hle i ws hw => by
    simp only [Array.empty_append, Array.append_empty]
    exact (h i J ws (G.mono (hs.im0.trans hle) hG) hw).mono fun v K _ ⟨x, h4, h5⟩ => h5 ▸ h4⟩
end clo
end Go.Ab
set_option linter.unusedVariables false
namespace Go.Ab
open Go.Fl Go.RowKit
open Rep (rep)
section rules
variable {P : Program} {C : Ctx} {N : Nat} {σ : AEnv} {H : AHeap} {d : Option Nat} {ty : TypeId} {ps : String} {af : Array Edge} {g : Option (Nat × Bool)} {K : AV → Prop} {KH : AV → AHeap → Prop} {x y z : Operand} {T T2 E S D U : TypeId}
theorem foldl_bytes : ∀ (l : List UInt8) (s : ByteArray), (l.map (fun c => (c.toNat : Int))).foldl (fun r n => r.push (UInt8.ofNat n.toNat)) s = ⟨s.data ++ l.toArray⟩
  | [], s => by simp
  | c :: l, s => by
    rw [List.map_cons, List.foldl_cons, foldl_bytes l]
    simp [ByteArray.push]
theorem OpP.bytesStr {l : List UInt8} (hS : P.underlying S = some (.slice E)) (hE : P.underlying E = some (.int .u8)) (hD : P.underlying D = some .string) (hx : EvA C σ H x (.v l)) (k : K (.v (Str.mk l))) :
    OpP P N C ⟨d, .convert S D x, ty, ps, af, g⟩ σ H K :=
  .vk k (fun ρ I L hs => .mk ⟨[.string ⟨l.toArray⟩], ⟨⟨_, rfl, by simp⟩, by
      obtain ⟨u, h1, xs, ⟨a, c, rfl, h2, h3, h4, _⟩, _⟩ := hx.sl hs
      unfold maxLen at h4; show l.length ≤ _; omega⟩, rfl⟩ fun ac w ha hm => by
    obtain ⟨u, h1, xs, hsl, hl⟩ := hx.sl hs
    obtain rfl := repL_u8.1 hl
    obtain ⟨a, c, rfl, h2, h3, h4, h5, h6⟩ := hsl
    have hrun : (convert S D (.slice a l.length c)).run P w = .ok (.string ⟨l.toArray⟩) w := by
      rw [run_convert_bytes_string w S D E a l.length c hS hE hD]
      cases a with
      | none =>
        have hc := h5 rfl
        have : l = [] := List.eq_nil_of_length_eq_zero (by omega)
        subst this
        simp [Conv.bytesToString]; rfl
      | some ad =>
        have hload : (loadCells ad l.length).run P w = .ok ((l.map (fun c => (c.toNat : Int))).map (Value.int .u8)).toArray w := by
          have h7 := run_loadCells_list (P := P) w ad (bytesV l) (fun j v hj => by
            have hne : bytesV l ≠ [] := by intro e; simp [e] at hj
            obtain ⟨b, o, hab, hcl⟩ := h6 hne
            cases hab
            have := hcl.cell hm hj
            have hplain : (⟨b, o, none⟩ : Addr).add j = ⟨b, o + j, none⟩ := by unfold Addr.add; split <;> simp_all
            rw [hplain]; exact this)
          have e1 : (bytesV l).length = l.length := by simp [bytesV]
          have e2 : (l.map (fun c => (c.toNat : Int))).map (Value.int .u8) = bytesV l := by simp [bytesV, Fl.u8]
          rw [e1] at h7
          rw [e2]; exact h7
        rw [run_bytesToString w ad l.length c _ hload, foldl_bytes]
        simp [ByteArray.empty, ByteArray.emptyWithCapacity]
        rfl
    simp [execOp, ha.ev h1, hrun, asV, Rep.agg])
end rules
end Go.Ab
set_option linter.unusedVariables false
namespace Go.Ab
open Go.Fl Go.RowKit
open Rep (rep)
structure GInv (P : Program) (C : Ctx) (N n : Nat) (l : List Oper) (ci : List Nat) (σ0 : AEnv) (accP : List (Nat × AV)) (Inv : Array Bool → List (Nat × AV) → AHeap → Prop) (ρ0 : Env) (I : Im)
    (listed : Array Bool) (cacc : List (Nat × AV)) (H : AHeap) (J : Im) (L : Lh) (vs : Nat → Value) (a : Act) (w : World) : Prop where
  head : HeadInv .any l.toArray n listed
  le : Le I J
  im0 : Le C.I0 J
  st : St C J L w
  heap : repH C.w0.heap.size J H L
  pl : Inv listed cacc H
  keys : ∀ j r, lookR cacc j = some r → j ∈ ci
  fresh : ∀ j r, lookR cacc j = some r → listed.getD j false = true
  prom : ∀ j r r0, lookR cacc j = some r → lookR accP j = some r0 → r = r0
  proL : ∀ j, j ∈ ci → listed.getD j false = true → ∃ r, lookR cacc j = some r
  val : ∀ j, j < n → listed.getD j false = true → ∃ r, lookR (cacc ++ accP) j = some r ∧ RepV J r (vs j)
  defers : a.defers = []
  size : a.tmps.size = N
  tmpI : ∀ j d, j < n → listed.getD j false = true → (l.toArray[j]?).bind (·.dst) = some d → a.tmps[d]? = some (vs j)
  tmpO : ∀ t v, Fl.look ρ0 t = some v → (∀ j, j < n → listed.getD j false = true → (l.toArray[j]?).bind (·.dst) ≠ some t) → a.tmps[t]? = some v
section
variable {P : Program} {C : Ctx} {N n : Nat} {l : List Oper} {ci : List Nat} {ss : List (List (Nat × Nat))} {σ0 : AEnv} {ι : Type 1} {HT : Nat → ι → AHeap} {accP : List (Nat × AV)} {Inv : Array Bool → List (Nat × AV) → AHeap → Prop} {ρ0 : Env} {I : Im} {L0 : Lh} {H0 : AHeap}
theorem GInv.step {listed : Array Bool} {cacc : List (Nat × AV)} {H : AHeap} {J : Im} {L : Lh} {vs : Nat → Value} {a : Act} {w : World} {Q' : Exit → Act → World → Prop}
    (h0 : RSt C I L0 σ0 H0 ρ0) (hN : dstOk N l = true) (hok : ∀ i, i < n → opOkC l.toArray n ss i = true) (hdst : dstsOkC l.toArray n = true)
    (hfam : ∀ listed cacc H i, Inv listed cacc H → i < n → i ∉ ci → listed.getD i false = false → ∃ q, H = HT i q) (hpure : ∀ listed cacc H i, Inv listed cacc H → i ∉ ci → Inv (listed.setIfInBounds i true) cacc H)
    (hstep : ∀ listed cacc H i o s, Inv listed cacc H → i ∈ ci → l[i]? = some o → ss[i]? = some s → listed.getD i false = false → (∀ j, Region.waitsFor .any l.toArray i j = true → listed.getD j false = true) → i < listed.size →
      o.guard = none ∧ OpH P C N o (envOf σ0 (cacc ++ accP) s (opTmps o)) H (fun r H' => (∀ r0, lookR accP i = some r0 → r = r0) ∧ Inv (listed.setIfInBounds i true) ((i, r) :: cacc) H'))
    (hp : ∀ i o s, i < n → i ∉ ci → l[i]? = some o → ss[i]? = some s → ∃ r, lookR accP i = some r ∧ dutyQ P N C σ0 (HT i) accP o s r)
    (inv : GInv P C N n l ci σ0 accP Inv ρ0 I listed cacc H J L vs a w) {i : Nat} (hr : i ∈ Region.ready .any l.toArray listed) (hin : i < n)
    {K : Act → World → Prop} (hK : ∀ cacc H J L vs a' w, GInv P C N n l ci σ0 accP Inv ρ0 I (listed.setIfInBounds i true) cacc H J L vs a' w → K a' w) :
    wpOpIn C.fen 0 P l.toArray Q' i K a w := by
  obtain ⟨hun, o, ho, hall⟩ := mem_ready.1 hr
  have hol : l[i]? = some o := by simpa using ho
  have hok' := hok i hin
  unfold opOkC at hok'
  simp only [ho] at hok'
  cases hs : ss[i]? with
  | none => simp [hs] at hok'
  | some s =>
  simp only [hs, Bool.and_eq_true] at hok'
  obtain ⟨hreads, hguard⟩ := hok'
  have hdN : ∀ d, o.dst = some d → d < N := fun d hod => by
    have := List.all_eq_true.1 hN o (List.mem_of_getElem? hol)
    rw [hod] at this
    simpa [Nat.blt_eq] using this
  have hlisted : ∀ j, Region.waitsFor .any l.toArray i j = true → listed.getD j false = true := fun j hw => by
    obtain ⟨e, he, hb, heq⟩ := waits_mem ho hw
    exact heq ▸ hall e he hb
  have hilt : i < listed.size := by
    rcases Nat.lt_or_ge i listed.size with h' | h'
    · exact h'
    · simp [Array.getElem?_eq_none h'] at hun
  have hiun : listed.getD i false = false := getD_both hun
  have hnot : ∀ j, Region.waitsFor .any l.toArray j i = true → listed.getD j false = true → False := fun j hw hl => by
    obtain ⟨oj, hoj, e, he, hb, heq⟩ := Region.waitsFor_spec hw
    have := inv.head.closed j oj hoj hl e he hb
    rw [heq, hiun] at this
    cases this
  let g : Nat → Option Value := fun t => match srcOf s t with | some j => some (vs j) | none => Fl.look ρ0 t
  have hsrcl : ∀ t ∈ opTmps o, ∀ j, srcOf s t = some j → j < n ∧ listed.getD j false = true ∧ (l.toArray[j]?).bind (·.dst) = some t := fun t ht j hj => by
    have hro := List.all_eq_true.1 hreads t ht
    unfold readOk at hro
    simp only [hj, Bool.and_eq_true, beq_iff_eq] at hro
    exact ⟨by simpa [Nat.blt_eq] using hro.1.1, hlisted j hro.2, hro.1.2⟩
  have hfits : Fits N (mkEnv g (opTmps o)) a := by
    refine ⟨inv.defers, inv.size, fun t v hv => ?_⟩
    obtain ⟨hmem, hg⟩ := look_mkEnv hv
    cases hsrc : srcOf s t with
    | some j =>
      obtain ⟨h1, h2, h3⟩ := hsrcl t hmem j hsrc
      have hgv : vs j = v := by simpa [g, hsrc] using hg
      rw [← hgv]
      exact inv.tmpI j t h1 h2 h3
    | none =>
      have hro := List.all_eq_true.1 hreads t hmem
      unfold readOk at hro
      simp only [hsrc] at hro
      refine inv.tmpO t v (by simpa [g, hsrc] using hg) fun j hj hl hdj => ?_
      have h1 := List.all_eq_true.1 hro j (List.mem_range.2 hj)
      simp only [hdj, beq_self_eq_true, Bool.not_true, Bool.false_or, Bool.or_eq_true, beq_iff_eq] at h1
      rcases h1 with h1 | h1
      · subst h1; rw [hiun] at hl; cases hl
      · exact hnot j h1 hl
  have henv : ∀ t b, lookA (envOf σ0 (cacc ++ accP) s (opTmps o)) t = some b → ∃ u, Fl.look (mkEnv g (opTmps o)) t = some u ∧ RepV J b u := fun t b hb => by
    obtain ⟨hmem, hb2⟩ := envOf_look hb
    cases hsrc : srcOf s t with
    | some j =>
      simp only [hsrc] at hb2
      obtain ⟨h1, h2, _⟩ := hsrcl t hmem j hsrc
      obtain ⟨r, h3, h4⟩ := inv.val j h1 h2
      rw [hb2] at h3
      cases h3
      exact ⟨vs j, by rw [look_mkEnv_mem hmem]; simp [g, hsrc], h4⟩
    | none =>
      simp only [hsrc] at hb2
      obtain ⟨u, h1, h2⟩ := h0.env t b hb2
      exact ⟨u, by rw [look_mkEnv_mem hmem]; simpa [g, hsrc] using h1, h2.mono inv.le⟩
  have hR : RSt C J L (envOf σ0 (cacc ++ accP) s (opTmps o)) H (mkEnv g (opTmps o)) := ⟨henv, inv.heap, inv.im0⟩
  have hput : ∀ j, j ≠ i → (listed.setIfInBounds i true).getD j false = listed.getD j false := fun j hj => getD_set_ne false (Ne.symm hj)
  have hdne : ∀ j, j < n → j ≠ i → ∀ d', (l.toArray[j]?).bind (·.dst) = some d' → o.dst ≠ some d' := by
    intro j hj hji d' hd' hod
    have hdi : (l.toArray[i]?).bind (·.dst) = some d' := by rw [ho]; exact hod
    rcases Nat.lt_or_gt_of_ne hji with h1 | h1
    · have := List.all_eq_true.1 (List.all_eq_true.1 hdst i (List.mem_range.2 hin)) j (List.mem_range.2 h1)
      rw [hdi, hd'] at this
      simp at this
    · have := List.all_eq_true.1 (List.all_eq_true.1 hdst j (List.mem_range.2 hj)) i (List.mem_range.2 h1)
      rw [hdi, hd'] at this
      simp at this
  -- what a finished operation does
  have fin : ∀ v J' L' H' cacc' w' r, Le J J' → St C J' L' w' → repH C.w0.heap.size J' H' L' → RepV J' r v → lookR (cacc' ++ accP) i = some r → (∀ j, j ≠ i → lookR (cacc' ++ accP) j = lookR (cacc ++ accP) j) →
      Inv (listed.setIfInBounds i true) cacc' H' → (∀ j r, lookR cacc' j = some r → j ∈ ci) → (∀ j r r0, lookR cacc' j = some r → lookR accP j = some r0 → r = r0) → (∀ j, j ∈ ci → (listed.setIfInBounds i true).getD j false = true → ∃ r, lookR cacc' j = some r) → (∀ j r, lookR cacc' j = some r → (listed.setIfInBounds i true).getD j false = true) → K (a.put o.dst v) w' := by
    intro v J' L' H' cacc' w' r hle hst hH hv hri hrj hpl hkeys hprom hproL hfresh
    refine hK cacc' H' J' L' (fun j => if j = i then v else vs j) _ _ ⟨inv.head.set hr hin, inv.le.trans hle, inv.im0.trans hle, hst, hH, hpl, hkeys, hfresh, hprom, hproL, fun j hj hl => ?_, ?_, ?_, fun j d' hj hl hd' => ?_, fun t u hu hno => ?_⟩
    · by_cases hji : j = i
      · subst hji
        exact ⟨r, hri, by simpa using hv⟩
      · rw [hput j hji] at hl
        obtain ⟨q, h1, h2⟩ := inv.val j hj hl
        exact ⟨q, (hrj j hji).trans h1, by simpa [hji] using h2.mono hle⟩
    · rw [put_defers]; exact inv.defers
    · rw [put_size]; exact inv.size
    · by_cases hji : j = i
      · subst hji
        have hod : o.dst = some d' := by rw [ho] at hd'; exact hd'
        rw [hod, put_eq _ _ (by rw [inv.size]; exact hdN d' hod), if_pos rfl]
      · rw [hput j hji] at hl
        rw [put_ne _ _ (hdne j hj hji d' hd'), if_neg hji]
        exact inv.tmpI j d' hj hl hd'
    · rw [put_ne _ _ (fun hod => hno i hin (getD_set_true' hilt) (by rw [ho]; exact hod))]
      refine inv.tmpO t u hu fun j hj hl => hno j hj ?_
      by_cases hji : j = i
      · subst hji; rw [hiun] at hl; cases hl
      · rw [hput j hji]; exact hl
  -- the guard
  have hgrd : ∀ gi want, o.guard = some (gi, want) → ∀ b, lookR accP gi = some (.v b) → yielded l.toArray a.tmps gi = some b := fun gi want hg b hb => by
    rw [hg] at hguard
    simp only [Bool.and_eq_true] at hguard
    have hgn : gi < n := by simpa [Nat.blt_eq] using hguard.1.1
    have hgl := hlisted gi hguard.1.2
    obtain ⟨r, h1, h2⟩ := inv.val gi hgn hgl
    have hr2 : r = .v b := by
      rw [lookR_append] at h1
      cases hc : lookR cacc gi with
      | some q =>
        rw [hc] at h1
        cases h1
        exact inv.prom gi _ _ hc hb
      | none =>
        rw [hc] at h1
        simp only at h1
        rw [hb] at h1
        exact (Option.some.inj h1).symm
    subst hr2
    obtain ⟨cs, rfl, hvs⟩ := h2
    obtain ⟨dg, hdg0⟩ := Option.isSome_iff_exists.1 hguard.2
    obtain ⟨og, hog, hdg⟩ := Option.bind_eq_some_iff.1 hdg0
    have htg := inv.tmpI gi dg hgn hgl (by rw [hog]; exact hdg)
    rw [hvs] at htg
    unfold yielded
    rw [hog]
    simp only [Option.bind_some, hdg, htg]
    rfl
  unfold wpOpIn
  simp only [ho]
  by_cases hic : i ∈ ci
  · obtain ⟨hgn, hop⟩ := hstep listed cacc H i o s inv.pl hic hol hs hiun hlisted hilt
    have hcn : lookR cacc i = none := by
      cases hc : lookR cacc i with
      | none => rfl
      | some q => exact absurd (inv.fresh i q hc) (by rw [hiun]; decide)
    have hself : ∀ r, lookR (((i, r) :: cacc) ++ accP) i = some r := fun r => by rw [lookR_append, lookR_cons, if_pos rfl]
    have hoth : ∀ r j, j ≠ i → lookR (((i, r) :: cacc) ++ accP) j = lookR (cacc ++ accP) j := fun r j hj => by rw [lookR_append, lookR_append, lookR_cons, if_neg (Ne.symm hj)]
    have hkeys : ∀ r, ∀ j q, lookR ((i, r) :: cacc) j = some q → j ∈ ci := fun r j q hq => by
      rw [lookR_cons] at hq
      by_cases e : i = j
      · subst e; exact hic
      · rw [if_neg e] at hq; exact inv.keys j q hq
    have hfresh : ∀ r, ∀ j q, lookR ((i, r) :: cacc) j = some q → (listed.setIfInBounds i true).getD j false = true := fun r j q hq => by
      rw [lookR_cons] at hq
      by_cases e : i = j
      · subst e; exact getD_set_true' hilt
      · rw [if_neg e] at hq; rw [hput j (Ne.symm e)]; exact inv.fresh j q hq
    have hprom : ∀ r, (∀ r0, lookR accP i = some r0 → r = r0) → ∀ j q r0, lookR ((i, r) :: cacc) j = some q → lookR accP j = some r0 → q = r0 := fun r hr0 j q r0 hq h0 => by
      rw [lookR_cons] at hq
      by_cases e : i = j
      · subst e; rw [if_pos rfl] at hq; cases hq; exact hr0 r0 h0
      · rw [if_neg e] at hq; exact inv.prom j q r0 hq h0
    have hproL : ∀ r, ∀ j, j ∈ ci → (listed.setIfInBounds i true).getD j false = true → ∃ q, lookR ((i, r) :: cacc) j = some q := fun r j hj hl => by
      by_cases e : i = j
      · subst e; exact ⟨r, by rw [lookR_cons, if_pos rfl]⟩
      · rw [hput j (Ne.symm e)] at hl
        obtain ⟨q, hq⟩ := inv.proL j hj hl
        exact ⟨q, by rw [lookR_cons, if_neg e]; exact hq⟩
    rw [if_pos (by simp [Region.wanted, hgn])]
    refine Yld.wp ((hop _ J L hR a w hfits inv.st).mono ?_)
    rintro v w' ⟨J', L', hst, hle, r, H', h1, h2, h3, h4⟩
    exact fin v J' L' H' ((i, r) :: cacc) w' r hle hst h2 h1 (hself r) (hoth r) h4 (hkeys r) (hprom r h3) (hproL r) (hfresh r)
  · obtain ⟨r, hri, hd⟩ := hp i o s hin hic hol hs
    have hcn : ∀ j, j ∉ ci → lookR cacc j = none := fun j hj => by
      cases hc : lookR cacc j with
      | none => rfl
      | some q => exact absurd (inv.keys j q hc) hj
    have hself : lookR (cacc ++ accP) i = some r := by rw [lookR_append, hcn i hic]; exact hri
    have hRq : RSt C J L (envOf σ0 accP s (opTmps o)) H (mkEnv g (opTmps o)) := hR.sub fun t b hb => by
      obtain ⟨hmem, hb2⟩ := envOf_look hb
      refine envOf_get ?_ hmem
      cases hsrc : srcOf s t with
      | none => simp only [hsrc] at hb2 ⊢; exact hb2
      | some j =>
        simp only [hsrc] at hb2 ⊢
        rw [lookR_append]
        cases hc : lookR cacc j with
        | none => exact hb2
        | some q => exact congrArg some (inv.prom j q b hc hb2)
    have hproL : ∀ j, j ∈ ci → (listed.setIfInBounds i true).getD j false = true → ∃ q, lookR cacc j = some q := fun j hj hl => by
      have : j ≠ i := by rintro rfl; exact hic hj
      rw [hput j this] at hl; exact inv.proL j hj hl
    have hfresh : ∀ j q, lookR cacc j = some q → (listed.setIfInBounds i true).getD j false = true := fun j q hq => by
      have : j ≠ i := by rintro rfl; exact hic (inv.keys j q hq)
      rw [hput j this]; exact inv.fresh j q hq
    obtain ⟨Hp, hHp⟩ := hfam _ _ _ i inv.pl hin hic hiun
    have hdH := hd Hp
    rw [← hHp] at hdH
    unfold dutyA at hdH
    have run : ∀ (c : AV), OpP P N C o (envOf σ0 accP s (opTmps o)) H (fun r' => r' = c) → (∀ J' u, RepV J' c u → RepV J' r u) → o.wpIn C.fen 0 P a w K Q' := fun c h hcr => by
      refine Yld.wp ((h _ J L hRq a w hfits inv.st.mem).mono ?_)
      rintro v w' ⟨J', X, hc, hle, hn, hm, hX, rfl, r', h1, rfl⟩
      have hst := (inv.st.step hc hle hn hm hX)
      rw [List.nil_append] at hst
      exact fin v J' L H cacc w' r hle hst (inv.heap.mono hle) (hcr _ _ h1) hself (fun j hj => rfl) (hpure _ _ _ i inv.pl hic) inv.keys inv.prom hproL hfresh
    cases hg : o.guard with
    | none =>
      rw [hg] at hdH
      rw [if_pos (by simp [Region.wanted, hg])]
      exact run r hdH (fun _ _ h => h)
    | some gw =>
      obtain ⟨gi, want⟩ := gw
      rw [hg] at hdH
      obtain ⟨b, c, hb, rfl, h2⟩ := hdH
      have hy := hgrd gi want hg b hb
      by_cases hbw : b = want
      · rw [if_pos (by simp [Region.wanted, hg, hy, hbw])]
        exact run c (h2 hbw) (fun _ _ h _ => h)
      · have hwf : ¬ Region.wanted o (yielded l.toArray a.tmps) = true := by simpa [Region.wanted, hg, hy] using hbw
        rw [if_neg hwf]
        refine ⟨fun _ _ => trivial, ?_⟩
        exact fin undef J L H cacc w (.opt (b == want) c) (Le.refl J) inv.st inv.heap (fun hc => absurd (by simpa using hc) hbw) hself (fun j hj => rfl) (hpure _ _ _ i inv.pl hic) inv.keys inv.prom hproL hfresh
theorem wpAny_G {Q' : Exit → Act → World → Prop} (h0 : RSt C I L0 σ0 H0 ρ0) (hN : dstOk N l = true) (hback : edgesBack l.toArray = true) (hok : ∀ i, i < n → opOkC l.toArray n ss i = true) (hdst : dstsOkC l.toArray n = true)
    (hfam : ∀ listed cacc H i, Inv listed cacc H → i < n → i ∉ ci → listed.getD i false = false → ∃ q, H = HT i q) (hpure : ∀ listed cacc H i, Inv listed cacc H → i ∉ ci → Inv (listed.setIfInBounds i true) cacc H)
    (hstep : ∀ listed cacc H i o s, Inv listed cacc H → i ∈ ci → l[i]? = some o → ss[i]? = some s → listed.getD i false = false → (∀ j, Region.waitsFor .any l.toArray i j = true → listed.getD j false = true) → i < listed.size →
      o.guard = none ∧ OpH P C N o (envOf σ0 (cacc ++ accP) s (opTmps o)) H (fun r H' => (∀ r0, lookR accP i = some r0 → r = r0) ∧ Inv (listed.setIfInBounds i true) ((i, r) :: cacc) H'))
    (hp : ∀ i o s, i < n → i ∉ ci → l[i]? = some o → ss[i]? = some s → ∃ r, lookR accP i = some r ∧ dutyQ P N C σ0 (HT i) accP o s r)
    (hle : n ≤ l.length) (htail : n = l.length ∨ (Region.sinkB .any l.toArray n = true ∧ Region.chainB .any l.toArray n = true)) (hseq : Region.seqB .any l.toArray (l.length - n) n (headAll l.length n) = true)
    (hfin : ∀ listed cacc H J L vs a w, GInv P C N n l ci σ0 accP Inv ρ0 I listed cacc H J L vs a w → (∀ j, j < n → listed.getD j false = true) → wpListIn C.fen 0 P l.toArray Q' (l.drop n) a w) :
    ∀ (m : Nat) (listed : Array Bool) cacc H J L vs a w, GInv P C N n l ci σ0 accP Inv ρ0 I listed cacc H J L vs a w → unl listed n = m → wpAnyIn C.fen 0 P .any l.toArray Q' (m + (l.length - n)) listed a w
  | 0, listed, cacc, H, J, L, vs, a, w, inv, hm => by
    have hsz : listed.size = l.length := by simpa using inv.head.size
    have hall : ∀ j, j < n → listed.getD j false = true := fun j hj => getD_both' (by omega) (unl_zero hm j hj)
    have heq : listed = headAll l.length n := by
      refine Array.ext (by simp [headAll, hsz]) fun j h1 h2 => ?_
      have e1 : (headAll l.length n)[j]'h2 = Nat.blt j n := by simp [headAll]
      rw [e1]
      by_cases hj : j < n
      · have := hall j hj
        simp [h1] at this
        rw [this]
        exact (Nat.blt_eq ▸ hj : Nat.blt j n = true).symm
      · have := inv.head.tail j (by omega) (by simp; omega)
        simp [h1] at this
        rw [this]
        cases hb : Nat.blt j n
        · rfl
        · exact absurd (Nat.blt_eq ▸ hb : j < n) hj
    have hw := hfin listed cacc H J L vs a w inv hall
    have h2 := wpAnyIn_of_seq (md := .any) (Q' := Q') (l.drop n) n listed a w (fun j => by simp [List.getElem?_drop]) (by rw [heq]; simpa using hseq) hw
    simpa using h2
  | m + 1, listed, cacc, H, J, L, vs, a, w, inv, hm => by
    have hsz : listed.size = l.length := by simpa using inv.head.size
    obtain ⟨i, hin, hi, hlt⟩ := unl_pos hm
    have hr := ready_of_least hback (by simpa using inv.head.size) hi hlt
    rw [show m + 1 + (l.length - n) = (m + (l.length - n)) + 1 by omega]
    refine ⟨fun h0 => (by rw [h0] at hr; cases hr), fun j hj => ?_⟩
    have hjn : j < n := by
      rcases Nat.lt_or_ge j n with h | h
      · exact h
      · rcases htail with ht | ⟨hs, hc⟩
        · obtain ⟨_, o, ho, _⟩ := mem_ready.1 hj
          have := (Array.getElem?_eq_some_iff.1 ho).1
          simp at this
          omega
        · have hnl : n < l.toArray.size := by
            obtain ⟨_, o, ho, _⟩ := mem_ready.1 hj
            have := (Array.getElem?_eq_some_iff.1 ho).1
            omega
          exact absurd hj (tail_waits hs hc hnl inv.head _ i rfl hin hi j h)
    refine inv.step h0 hN hok hdst hfam hpure hstep hp hj hjn fun cacc' H' J' L' vs' a' w' inv' => ?_
    refine wpAny_G h0 hN hback hok hdst hfam hpure hstep hp hle htail hseq hfin m _ cacc' H' J' L' vs' a' w' inv' ?_
    have hu := (mem_ready.1 hj).1
    have := unl_set hu hjn
    omega
end
theorem wpA.drawG' {P : Program} {C : Ctx} {N : Nat} {Q : Exit → AEnv → AHeap → Prop} {σ : AEnv} {H : AHeap} {id : Nat} {l : List Oper} {ι : Type 1} (HT : Nat → ι → AHeap) (hm : P.follows .mixedOrders = true) (n : Nat) (ss : List (List (Nat × Nat))) (ci : List Nat)
    (hN : dstOk N l = true) (hB : phiOkC l.toArray n ss = true) (full : List (Nat × AV)) (Inv : Array Bool → List (Nat × AV) → AHeap → Prop) (h00 : Inv (Array.replicate l.toArray.size false) [] H)
    (hp : ∀ i o s, i < n → i ∉ ci → l[i]? = some o → ss[i]? = some s → ∃ r, lookR full i = some r ∧ dutyQ P N C σ (HT i) full o s r)
    (hfam : ∀ listed cacc H i, Inv listed cacc H → i < n → i ∉ ci → listed.getD i false = false → ∃ q, H = HT i q) (hpure : ∀ listed cacc H i, Inv listed cacc H → i ∉ ci → Inv (listed.setIfInBounds i true) cacc H)
    (hstep : ∀ listed cacc H i o s, Inv listed cacc H → i ∈ ci → l[i]? = some o → ss[i]? = some s → listed.getD i false = false → (∀ j, Region.waitsFor .any l.toArray i j = true → listed.getD j false = true) → i < listed.size →
      o.guard = none ∧ OpH P C N o (envOf σ (cacc ++ full) s (opTmps o)) H (fun r H' => (∀ r0, lookR full i = some r0 → r = r0) ∧ Inv (listed.setIfInBounds i true) ((i, r) :: cacc) H'))
    (hfinal : ∀ listed cacc H', Inv listed cacc H' → (∀ j, j < n → listed.getD j false = true) → wpB P C N l.toArray Q (l.drop n) (finA (cacc ++ full) (l.take n) 0 σ) H') :
    wpA P C N (.region id l.toArray true) Q σ H := fun ρ I L hs a w ha hst => by
  have hB0 := hB
  simp only [phiOkC, Bool.and_eq_true, Bool.or_eq_true] at hB
  obtain ⟨⟨⟨⟨⟨hle, hback⟩, hok⟩, hdst⟩, htail⟩, hseq⟩ := hB
  have hle' : n ≤ l.length := by simpa using Nat.le_of_ble_eq_true hle
  have hok' : ∀ i, i < n → opOkC l.toArray n ss i = true := fun i hi => List.all_eq_true.1 hok i (List.mem_range.2 hi)
  have hs' : St C I L { w with drawn := w.drawn + 1 } := ⟨⟨hst.mem.im, hst.mem.loc, hst.mem.sep, hst.mem.nodup⟩, ⟨hst.chg.os, hst.chg.tape, hst.chg.output, hst.chg.size, hst.chg.block⟩, hst.own, hst.im0, hst.new⟩
  refine wpIn_region_any hm ?_
  have inv0 : GInv P C N n l ci σ full Inv ρ I (Array.replicate l.toArray.size false) [] H I L (fun _ => undef) a { w with drawn := w.drawn + 1 } := by
    have hnl : ∀ j, (Array.replicate l.toArray.size false).getD j false = true → False := fun j hl => by rw [getD_replicate_false] at hl; cases hl
    refine ⟨⟨by simp, fun j oj _ hl => (hnl j hl).elim, fun t _ ht => getD_in (by simpa using ht) (getD_replicate_false _ _)⟩, Le.refl _, hs.im0, hs', hs.heap, h00, fun j r hj => by simp [lookR] at hj, fun j r hj => by simp [lookR] at hj, fun j r r0 hj => by simp [lookR] at hj, fun j _ hl => (hnl j hl).elim, fun j _ hl => (hnl j hl).elim, ha.defers, ha.size, fun j d _ hl => (hnl j hl).elim, fun t v hv _ => ha.tmp t v hv⟩
  have hunl : unl (Array.replicate l.toArray.size false) n = n := by
    have key : ∀ k, k ≤ l.toArray.size → unl (Array.replicate l.toArray.size false) k = k := by
      intro k
      induction k with
      | zero => intro _; rfl
      | succ k ih =>
        intro hk
        rw [unl, ih (by omega), if_pos (getD_in (by simp at hk ⊢; omega) (getD_replicate_false _ _))]
    exact key n (by simpa using hle')
  have hmain := wpAny_G (Q' := liftQ C N (qA C Q)) hs hN hback hok' hdst hfam hpure hstep hp hle'
    (by rcases htail with h | h
        · exact .inl (by simpa using h)
        · exact .inr h) (by simpa using hseq)
    (fun listed cacc H' J L' vs a' w' inv hall => by
      have hpl := hfinal listed cacc H' inv.pl hall
      have hNd : dstOk N (l.drop n) = true := by
        simp only [dstOk, List.all_eq_true] at hN ⊢
        exact fun o ho => hN o (List.mem_of_mem_drop ho)
      have hR : RSt C J L' σ H' ρ := ⟨fun t b hb => by obtain ⟨u, h1, h2⟩ := hs.env t b hb; exact ⟨u, h1, h2.mono inv.le⟩, inv.heap, inv.im0⟩
      have hget : ∀ i o, (l.take n)[i]? = some o → i < n ∧ l[i]? = some o := fun i o ho => by
        have h1 := (List.getElem?_eq_some_iff.1 ho).1
        have hin : i < n := by rw [List.length_take] at h1; omega
        rw [List.getElem?_take, if_pos hin] at ho
        exact ⟨hin, ho⟩
      refine hpl (finV vs (l.take n) 0 ρ) J L' (finV_st (l.take n) 0 σ ρ hR fun i o ho => ?_) hNd a' w' (finV_fits inv.defers inv.size (l.take n) 0 ρ (fun i o d ho hdd => ?_) fun t v hv hno => inv.tmpO t v hv fun j hj _ hdj => ?_) inv.st
      · obtain ⟨hin, _⟩ := hget i o ho
        rw [Nat.zero_add]
        exact inv.val i hin (hall i hin)
      · obtain ⟨hin, ho2⟩ := hget i o ho
        rw [Nat.zero_add]
        exact inv.tmpI i d hin (hall i hin) (by simp [ho2, hdd])
      · have hjl : j < l.length := by omega
        have : (l.take n)[j]? = some l[j] := by rw [List.getElem?_take, if_pos hj]; exact List.getElem?_eq_getElem hjl
        refine hno j l[j] this ?_
        simpa [hjl] using hdj)
    n _ _ _ _ _ _ _ _ inv0 hunl
  rw [show n + (l.length - n) = l.toArray.size by simp; omega] at hmain
  exact hmain
theorem wpA.drawG {P : Program} {C : Ctx} {N : Nat} {Q : Exit → AEnv → AHeap → Prop} {σ : AEnv} {H : AHeap} {id : Nat} {l : List Oper} {ι : Type 1} (HT : ι → AHeap) (hm : P.follows .mixedOrders = true) (n : Nat) (ss : List (List (Nat × Nat))) (ci : List Nat)
    (hN : dstOk N l = true) (hB : phiOkC l.toArray n ss = true) (full : List (Nat × AV)) (Inv : Array Bool → List (Nat × AV) → AHeap → Prop) (h00 : Inv (Array.replicate l.toArray.size false) [] H)
    (hp : ∀ i o s, i < n → i ∉ ci → l[i]? = some o → ss[i]? = some s → ∃ r, lookR full i = some r ∧ dutyQ P N C σ HT full o s r)
    (hfam : ∀ listed cacc H, Inv listed cacc H → ∃ q, H = HT q) (hpure : ∀ listed cacc H i, Inv listed cacc H → i ∉ ci → Inv (listed.setIfInBounds i true) cacc H)
    (hstep : ∀ listed cacc H i o s, Inv listed cacc H → i ∈ ci → l[i]? = some o → ss[i]? = some s → listed.getD i false = false → (∀ j, Region.waitsFor .any l.toArray i j = true → listed.getD j false = true) → i < listed.size →
      o.guard = none ∧ OpH P C N o (envOf σ (cacc ++ full) s (opTmps o)) H (fun r H' => (∀ r0, lookR full i = some r0 → r = r0) ∧ Inv (listed.setIfInBounds i true) ((i, r) :: cacc) H'))
    (hfinal : ∀ listed cacc H', Inv listed cacc H' → (∀ j, j < n → listed.getD j false = true) → wpB P C N l.toArray Q (l.drop n) (finA (cacc ++ full) (l.take n) 0 σ) H') :
    wpA P C N (.region id l.toArray true) Q σ H :=
  wpA.drawG' (fun _ => HT) hm n ss ci hN hB full Inv h00 hp (fun listed cacc H i h _ _ _ => hfam listed cacc H h) hpure hstep hfinal
end Go.Ab
set_option linter.unusedVariables false
namespace Go.Ab
open Go.Fl Go.RowKit
open Rep (rep)
structure AT where
  α : Type
  r : Rep α
  d : α
def AT.res (t : AT) (b : Nat) : AV := @AV.ln t.α t.α t.r t.r (ptr b 0) (@Lens.id t.α t.r)
def AT.blk (t : AT) (b : Nat) : Bool × Blk := (true, @Blk.ob t.α t.r (ptr b 0) t.d)
def hole0 : Bool × Blk := (true, .fz undef .any)
def hA (listed : Nat → Bool) (ws : Nat → Nat) (al : List (Nat × AT)) : AHeap := al.map fun p => bif listed p.1 then p.2.blk (ws p.1) else hole0
theorem wpA.padE {P : Program} {C : Ctx} {N : Nat} {Q : Exit → AEnv → AHeap → Prop} {σ : AEnv} {H : AHeap} {c : Code} (k : wpA P C N c Q σ (hole0 :: H)) : wpA P C N c Q σ H := fun ρ I L hs =>
  wpS.pad (k ρ I ([] :: L) ⟨hs.env, ⟨[], L, rfl, ⟨⟨rfl, trivial⟩, fun _ p hp => by cases hp⟩, hs.heap⟩, hs.im0⟩)
theorem flatten_move {L : Lh} {i : Nat} (h : L[i]? = some []) (X : List (Nat × Obj)) : (L.set i X).flatten.Perm (X ++ L.flatten) := by
  obtain ⟨h1, h2⟩ := split_at L i [] h X
  rw [h1, h2, List.nil_append, ← List.append_assoc, ← List.append_assoc]
  exact List.Perm.append_right _ List.perm_append_comm
theorem stPerm {C : Ctx} {I : Im} {L M : Lh} {w : World} (h : St C I L w) (hp : M.flatten.Perm L.flatten) : St C I M w :=
  ⟨⟨h.mem.im, fun p hq => h.mem.loc p (hp.mem_iff.1 hq), fun p hq => h.mem.sep p (hp.mem_iff.1 hq), (hp.map Prod.fst).nodup_iff.2 h.mem.nodup⟩, h.chg, fun p hq => h.own p (hp.mem_iff.1 hq), h.im0, h.new⟩
theorem OpH.into {P : Program} {C : Ctx} {N : Nat} {o : Oper} {σ : AEnv} {H : AHeap} {K : AV → AHeap → Prop} {F : Bool × Blk → AHeap} (hh : Hole H hole0 F)
    (h : OpH P C N o σ H (fun r H' => ∃ B, H' = B :: H ∧ K r (F B))) : OpH P C N o σ H K := fun ρ I L hs a w ha hst => by
  refine (h ρ I L hs a w ha hst).mono ?_
  rintro v w' ⟨J, L', q1, q2, r, H', q3, q4, B, rfl, q5⟩
  obtain ⟨X, R, rfl, h1, h2⟩ := q4
  obtain ⟨j, Y, h3, h4, h5⟩ := hh.get h2
  have hY : Y = [] := h4.1.1
  subst hY
  exact ⟨J, R.set j X, stPerm q1 (flatten_move h3 X), q2, r, F B, q3, h5 J B X (Le.refl J) h1, q5⟩
def rA (ws : Nat → Nat) (al : List (Nat × AT)) : List (Nat × AV) := al.map fun p => (p.1, p.2.res (ws p.1))
def upd (ws : Nat → Nat) (i b : Nat) : Nat → Nat := fun j => if j = i then b else ws j
theorem lookR_rA {ws : Nat → Nat} : ∀ {al : List (Nat × AT)} {p : Nat × AT}, (al.map Prod.fst).Nodup → p ∈ al → lookR (rA ws al) p.1 = some (p.2.res (ws p.1))
  | q :: al, p, hn, hp => by
    rw [List.map_cons, List.nodup_cons] at hn
    show lookR ((q.1, q.2.res (ws q.1)) :: rA ws al) p.1 = _
    rw [lookR_cons]
    rcases List.mem_cons.1 hp with rfl | hp
    · rw [if_pos rfl]
    · rw [if_neg (fun e => hn.1 (by rw [e]; exact List.mem_map_of_mem hp))]
      exact lookR_rA hn.2 hp
theorem lookR_rA_none {ws : Nat → Nat} : ∀ {al : List (Nat × AT)} {j : Nat}, j ∉ al.map Prod.fst → lookR (rA ws al) j = none
  | [], j, _ => rfl
  | q :: al, j, h => by
    show lookR ((q.1, q.2.res (ws q.1)) :: rA ws al) j = _
    rw [List.map_cons, List.mem_cons, not_or] at h
    rw [lookR_cons, if_neg (fun e => h.1 e.symm)]
    exact lookR_rA_none h.2
theorem lookR_rA_congr {ws ws' : Nat → Nat} {j : Nat} (h : ws j = ws' j) : ∀ {al : List (Nat × AT)}, lookR (rA ws al) j = lookR (rA ws' al) j
  | [] => rfl
  | q :: al => by
    show lookR ((q.1, q.2.res (ws q.1)) :: rA ws al) j = lookR ((q.1, q.2.res (ws' q.1)) :: rA ws' al) j
    rw [lookR_cons, lookR_cons]
    by_cases e : q.1 = j
    · subst e; rw [if_pos rfl, if_pos rfl, h]
    · rw [if_neg e, if_neg e]; exact lookR_rA_congr h
theorem hA_cons {f : Nat → Bool} {ws : Nat → Nat} {q : Nat × AT} {al : List (Nat × AT)} : hA f ws (q :: al) = (bif f q.1 then q.2.blk (ws q.1) else hole0) :: hA f ws al := rfl
theorem hA_congr {f g : Nat → Bool} {ws ws' : Nat → Nat} : ∀ {al : List (Nat × AT)}, (∀ p ∈ al, f p.1 = g p.1 ∧ ws p.1 = ws' p.1) → hA f ws al = hA g ws' al
  | [], _ => rfl
  | q :: al, h => by
    have h1 := h q List.mem_cons_self
    show (bif f q.1 then q.2.blk (ws q.1) else hole0) :: hA f ws al = (bif g q.1 then q.2.blk (ws' q.1) else hole0) :: hA g ws' al
    rw [h1.1, h1.2, hA_congr fun p hp => h p (List.mem_cons_of_mem _ hp)]
theorem hA_all {f : Nat → Bool} {ws : Nat → Nat} {al : List (Nat × AT)} (h : ∀ p ∈ al, f p.1 = true) : hA f ws al = al.map fun p => p.2.blk (ws p.1) :=
  List.map_congr_left fun p hp => by rw [h p hp]; rfl
theorem hA_hole {f : Nat → Bool} {ws : Nat → Nat} {H0 : AHeap} {p : Nat × AT} : ∀ {al : List (Nat × AT)}, (al.map Prod.fst).Nodup → p ∈ al → f p.1 = false →
    ∃ F, Hole (hA f ws al ++ H0) hole0 F ∧ ∀ b, F (p.2.blk b) = hA (fun j => if j = p.1 then true else f j) (upd ws p.1 b) al ++ H0
  | q :: al, hn, hp, hf => by
    rw [List.map_cons, List.nodup_cons] at hn
    rcases List.mem_cons.1 hp with rfl | hp
    · refine ⟨fun X => X :: (hA f ws al ++ H0), ?_, fun b => ?_⟩
      · show Hole ((bif f p.1 then p.2.blk (ws p.1) else hole0) :: (hA f ws al ++ H0)) hole0 _
        rw [hf]; exact .z
      · rw [hA_cons, List.cons_append, if_pos rfl]
        show p.2.blk b :: (hA f ws al ++ H0) = _
        rw [hA_congr (g := fun j => if j = p.1 then true else f j) (ws' := upd ws p.1 b) fun q hq => ?_]
        · simp [upd]
        · have : q.1 ≠ p.1 := fun e => hn.1 (by rw [← e]; exact List.mem_map_of_mem hq)
          simp [upd, this]
    · obtain ⟨F, h1, h2⟩ := hA_hole (H0 := H0) (ws := ws) hn.2 hp hf
      have hne : q.1 ≠ p.1 := fun e => hn.1 (by rw [e]; exact List.mem_map_of_mem hp)
      refine ⟨fun X => (bif f q.1 then q.2.blk (ws q.1) else hole0) :: F X, .s h1, fun b => ?_⟩
      rw [hA_cons, List.cons_append, if_neg hne]
      show _ :: F (p.2.blk b) = _
      rw [h2 b]
      simp [upd, hne]
def chainOkA (ops : Array Oper) (n : Nat) (ss : List (List (Nat × Nat))) (ks ci : List Nat) : Bool :=
  chainOk ops n ss ci && ci.all (fun i => match ops[i]? with | some o => o.guard.isNone | none => false) && ks.all (fun i => Nat.blt i n && !(ci.contains i)) &&
  (match ci with | i :: _ => ks.all (fun j => Region.waitsFor .any ops i j) | [] => true)
def InvA (P : Program) (C : Ctx) (N : Nat) {ι : Type 1} (HT : ι → AHeap) (σ : AEnv) (full : List (Nat × AV)) (F : List (Nat × AV) → AHeap → Prop) (cl : List (Nat × Oper × List (Nat × Nat))) (al : List (Nat × AT)) (ci : List Nat) (H0 : AHeap)
    (listed : Array Bool) (cacc : List (Nat × AV)) (H : AHeap) : Prop :=
  ((∀ i ∈ ci, listed.getD i false = false) ∧ ∃ ws, (∀ j, lookR cacc j = if listed.getD j false = true then lookR (rA ws al) j else none) ∧ H = hA (fun j => listed.getD j false) ws al ++ H0) ∨
  ((∀ p ∈ al, listed.getD p.1 false = true) ∧ ∃ k c1, k ≤ ci.length ∧ (∀ m i, ci[m]? = some i → (listed.getD i false = true ↔ m < k)) ∧ (∀ j, lookR cacc j = lookR c1 j) ∧ planK P C N σ HT full F (cl.drop k) c1 H)
section
variable {P : Program} {C : Ctx} {N n : Nat} {ι : Type 1} {HT : ι → AHeap} {σ : AEnv} {full : List (Nat × AV)} {F : List (Nat × AV) → AHeap → Prop} {l : List Oper} {ss : List (List (Nat × Nat))} {al : List (Nat × AT)} {ci : List Nat} {H0 : AHeap} {listed : Array Bool} {cacc : List (Nat × AV)} {H : AHeap}
theorem InvA.pure {i : Nat} (h : InvA P C N HT σ full F (clOf l ss ci) al ci H0 listed cacc H) (h1 : i ∉ ci) (h2 : i ∉ al.map Prod.fst) : InvA P C N HT σ full F (clOf l ss ci) al ci H0 (listed.setIfInBounds i true) cacc H := by
  have hput : ∀ j, j ≠ i → (listed.setIfInBounds i true).getD j false = listed.getD j false := fun j hj => getD_set_ne false (Ne.symm hj)
  rcases h with ⟨ha, ws, hb, hc⟩ | ⟨ha, k, c1, hk, hb, hc, hd⟩
  · refine .inl ⟨fun j hj => by rw [hput j (fun e => h1 (e ▸ hj))]; exact ha j hj, ws, fun j => ?_, ?_⟩
    · by_cases e : j = i
      · subst e
        rw [hb j, lookR_rA_none h2]; simp
      · rw [hput j e]; exact hb j
    · rw [hc, hA_congr fun p hp => ⟨?_, rfl⟩]
      exact (hput p.1 (fun e => h2 (e ▸ List.mem_map_of_mem hp))).symm
  · refine .inr ⟨fun p hp => by rw [hput p.1 (fun e => h2 (e ▸ List.mem_map_of_mem hp))]; exact ha p hp, k, c1, hk, fun m j hj => ?_, hc, hd⟩
    rw [hput j (fun e => h1 (e ▸ List.mem_of_getElem? hj))]; exact hb m j hj
theorem InvA.chained {i : Nat} (hch : chainOkA l.toArray n ss (al.map Prod.fst) ci = true) (hplan : ∀ ws, planK P C N σ HT full F (clOf l ss ci) (rA ws al) ((al.map fun p => p.2.blk (ws p.1)) ++ H0))
    (h : InvA P C N HT σ full F (clOf l ss ci) al ci H0 listed cacc H) (hi : i ∈ ci) (hw : ∀ j, Region.waitsFor .any l.toArray i j = true → listed.getD j false = true) :
    (∀ p ∈ al, listed.getD p.1 false = true) ∧ ∃ k c1, k ≤ ci.length ∧ (∀ m i, ci[m]? = some i → (listed.getD i false = true ↔ m < k)) ∧ (∀ j, lookR cacc j = lookR c1 j) ∧ planK P C N σ HT full F ((clOf l ss ci).drop k) c1 H := by
  rcases h with ⟨ha, ws, hb, hc⟩ | h
  · simp only [chainOkA, Bool.and_eq_true] at hch
    obtain ⟨⟨⟨hch, _⟩, hks⟩, hfirst⟩ := hch
    obtain ⟨m, hm⟩ := List.mem_iff_getElem?.1 hi
    have hml : m < ci.length := (List.getElem?_eq_some_iff.1 hm).1
    unfold chainOk at hch
    cases m with
    | succ mj =>
      have h1 := List.all_eq_true.1 hch (mj + 1) (List.mem_range.2 hml)
      simp only [hm, Bool.and_eq_true] at h1
      cases hj : ci[mj]? with
      | none => simp [hj] at h1
      | some j =>
        simp only [hj, Bool.and_eq_true] at h1
        have h2 := hw j h1.2.2
        rw [ha j (List.mem_of_getElem? hj)] at h2; cases h2
    | zero =>
      cases hci : ci with
      | nil => rw [hci] at hml; exact absurd hml (by simp)
      | cons c r =>
        rw [hci] at hm hfirst
        have hci2 : c = i := by simpa using hm
        subst hci2
        have hall : ∀ p ∈ al, listed.getD p.1 false = true := fun p hp => hw p.1 (List.all_eq_true.1 hfirst p.1 (List.mem_map_of_mem hp))
        refine ⟨hall, 0, rA ws al, Nat.zero_le _, fun m j hj => ⟨fun hl => ?_, fun h => by omega⟩, fun j => ?_, ?_⟩
        · rw [ha j (by rw [hci]; exact List.mem_of_getElem? hj)] at hl; cases hl
        · rw [hb j]
          split
          · rfl
          · rename_i hn
            refine (lookR_rA_none fun hj => ?_).symm
            obtain ⟨p, hp, rfl⟩ := List.mem_map.1 hj
            exact hn (hall p hp)
        · rw [List.drop_zero, ← hci, hc, hA_all hall]
          exact hplan ws
  · exact h
theorem InvA.alloc {p : Nat × AT} (hn : (al.map Prod.fst).Nodup) (hp : p ∈ al) (hd : p.1 ∉ ci) (h : InvA P C N HT σ full F (clOf l ss ci) al ci H0 listed cacc H) (hun : listed.getD p.1 false = false) (hlt : p.1 < listed.size) :
    ∃ F', Hole H hole0 F' ∧ ∀ b, InvA P C N HT σ full F (clOf l ss ci) al ci H0 (listed.setIfInBounds p.1 true) ((p.1, p.2.res b) :: cacc) (F' (p.2.blk b)) := by
  have hput : ∀ j, j ≠ p.1 → (listed.setIfInBounds p.1 true).getD j false = listed.getD j false := fun j hj => getD_set_ne false (Ne.symm hj)
  have hset : (listed.setIfInBounds p.1 true).getD p.1 false = true := getD_set_true' hlt
  rcases h with ⟨ha, ws, hb, hc⟩ | ⟨ha, _⟩
  · obtain ⟨F', h1, h2⟩ := hA_hole (f := fun j => listed.getD j false) (ws := ws) (H0 := H0) hn hp hun
    refine ⟨F', hc ▸ h1, fun b => .inl ⟨fun j hj => by rw [hput j (fun e => hd (e ▸ hj))]; exact ha j hj, upd ws p.1 b, fun j => ?_, ?_⟩⟩
    · rw [lookR_cons]
      by_cases e : p.1 = j
      · subst e
        rw [if_pos rfl, if_pos hset, lookR_rA hn hp]
        simp [upd]
      · rw [if_neg e, hput j (Ne.symm e), hb j, lookR_rA_congr (ws := ws) (ws' := upd ws p.1 b) (by simp [upd, Ne.symm e])]
    · rw [h2 b]
      congr 1
      refine hA_congr fun q hq => ⟨?_, rfl⟩
      by_cases e : q.1 = p.1
      · rw [e, if_pos rfl, hset]
      · rw [if_neg e, hput _ e]
  · rw [ha p hp] at hun; cases hun
theorem InvA.chain {i : Nat} {o : Oper} {s : List (Nat × Nat)} (hch : chainOkA l.toArray n ss (al.map Prod.fst) ci = true) (hcl : ∀ (m i : Nat) (o : Oper) (s : List (Nat × Nat)), ci[m]? = some i → l[i]? = some o → ss[i]? = some s → (clOf l ss ci)[m]? = some (i, o, s)) (hnd : ci.Nodup)
    (hplan : ∀ ws, planK P C N σ HT full F (clOf l ss ci) (rA ws al) ((al.map fun p => p.2.blk (ws p.1)) ++ H0))
    (h : InvA P C N HT σ full F (clOf l ss ci) al ci H0 listed cacc H) (hi : i ∈ ci) (hol : l[i]? = some o) (hs : ss[i]? = some s) (hun : listed.getD i false = false) (hw : ∀ j, Region.waitsFor .any l.toArray i j = true → listed.getD j false = true) (hlt : i < listed.size) :
    o.guard = none ∧ OpH P C N o (envOf σ (cacc ++ full) s (opTmps o)) H (fun r H' => (∀ r0, lookR full i = some r0 → r = r0) ∧ InvA P C N HT σ full F (clOf l ss ci) al ci H0 (listed.setIfInBounds i true) ((i, r) :: cacc) H') := by
  obtain ⟨hall, k, c1, hk, hb, hc, hpl⟩ := h.chained hch hplan hi hw
  simp only [chainOkA, Bool.and_eq_true] at hch
  obtain ⟨⟨⟨hch, hgs⟩, hks⟩, _⟩ := hch
  have hg : o.guard = none := by
    have := List.all_eq_true.1 hgs i hi
    simp only [show l.toArray[i]? = some o by simpa using hol] at this
    exact Option.isNone_iff_eq_none.1 this
  have hput : ∀ j, j ≠ i → (listed.setIfInBounds i true).getD j false = listed.getD j false := fun j hj => getD_set_ne false (Ne.symm hj)
  obtain ⟨m, hm⟩ := List.mem_iff_getElem?.1 hi
  have hml : m < ci.length := (List.getElem?_eq_some_iff.1 hm).1
  have hmk : ¬ m < k := fun h => by have := (hb m i hm).2 h; rw [hun] at this; cases this
  have hkm : m ≤ k := by
    unfold chainOk at hch
    cases m with
    | zero => omega
    | succ mj =>
      have h1 := List.all_eq_true.1 hch (mj + 1) (List.mem_range.2 hml)
      simp only [hm, Bool.and_eq_true] at h1
      cases hj : ci[mj]? with
      | none => simp [hj] at h1
      | some j =>
        simp only [hj, Bool.and_eq_true] at h1
        have := (hb mj j hj).1 (hw j h1.2.2)
        omega
  obtain rfl : m = k := by omega
  have hcc := hcl m i o s hm hol hs
  have hdrop : (clOf l ss ci).drop m = (i, o, s) :: (clOf l ss ci).drop (m + 1) := by
    have hlt := (List.getElem?_eq_some_iff.1 hcc).1
    rw [List.drop_eq_getElem_cons hlt]
    congr 1
    rw [List.getElem?_eq_getElem hlt] at hcc
    exact Option.some.inj hcc
  rw [hdrop, planK] at hpl
  replace hpl := hpl.2
  have henv : envOf σ (cacc ++ full) s (opTmps o) = envOf σ (c1 ++ full) s (opTmps o) := envOf_congr (fun t j _ => by rw [lookR_append, lookR_append, hc j]) _
  refine ⟨hg, ?_⟩
  rw [henv]
  have hnext : ∀ r H', planK P C N σ HT full F ((clOf l ss ci).drop (m + 1)) ((i, r) :: c1) H' → InvA P C N HT σ full F (clOf l ss ci) al ci H0 (listed.setIfInBounds i true) ((i, r) :: cacc) H' := fun r H' hq => by
    refine .inr ⟨fun p hp => ?_, m + 1, (i, r) :: c1, by omega, fun m' i' hm' => ?_, fun j => by rw [lookR_cons, lookR_cons, hc j], hq⟩
    · by_cases e : p.1 = i
      · rw [e]; exact getD_set_true' hlt
      · rw [hput _ e]; exact hall p hp
    · by_cases e : i' = i
      · subst e
        have h1 := (List.getElem?_eq_some_iff.1 hm')
        have h2 := (List.getElem?_eq_some_iff.1 hm)
        have : m' = m := (List.getElem_inj (h₀ := h1.1) (h₁ := h2.1) hnd).1 (by rw [h1.2, h2.2])
        subst this
        exact ⟨fun _ => by omega, fun _ => getD_set_true' hlt⟩
      · rw [hput i' e, hb m' i' hm']
        have : m' ≠ m := by rintro rfl; rw [hm] at hm'; exact e (Option.some.inj hm').symm
        omega
  cases hr : lookR full i with
  | none =>
    rw [hg, hr] at hpl
    exact hpl.mono fun r H' hq => ⟨fun r0 h0 => (by cases h0), hnext r H' hq⟩
  | some r0 =>
    rw [hg, hr] at hpl
    exact hpl.mono fun r H' ⟨e, hq⟩ => ⟨fun q h0 => by cases h0; exact e, by subst e; exact hnext _ H' hq⟩
end
theorem finA_congr {a b : List (Nat × AV)} (h : ∀ j, lookR a j = lookR b j) : ∀ (os : List Oper) (k : Nat) (σ : AEnv), finA a os k σ = finA b os k σ
  | [], _, _ => rfl
  | o :: os, k, σ => by
    simp only [finA, h k]
    cases o.dst with
    | none => exact finA_congr h os _ _
    | some d =>
      cases lookR b k with
      | none => exact finA_congr h os _ _
      | some r => exact finA_congr h os _ _
theorem famT_id {G : AHeap} : ∀ (bs : List Bool) (k : Nat), famT bs (G.drop k) (fun j => G.getD j hole0) k = G.drop k
  | [], _ => by simp [famT]
  | b :: bs, k => by
    cases hd : G.drop k with
    | nil => rfl
    | cons B R =>
      have hB : G.getD k hole0 = B := by
        have h1 : G[k]? = some B := by
          have := congrArg (fun l : AHeap => l[0]?) hd
          simpa using this
        simp [List.getD, h1]
      have hR : G.drop (k + 1) = R := by
        rw [← List.drop_drop, hd]; rfl
      show (bif b then G.getD k hole0 else B) :: famT bs R (fun j => G.getD j hole0) (k + 1) = B :: R
      rw [hB, ← hR, famT_id bs (k + 1)]
      cases b <;> rfl
theorem wpA.padN {P : Program} {C : Ctx} {N : Nat} {Q : Exit → AEnv → AHeap → Prop} {σ : AEnv} {H : AHeap} {c : Code} : ∀ {al : List (Nat × AT)}, wpA P C N c Q σ ((al.map fun _ => hole0) ++ H) → wpA P C N c Q σ H
  | [], h => h
  | _ :: al, h => wpA.padN (al := al) (wpA.padE h)
theorem wpA.drawA {P : Program} {C : Ctx} {N : Nat} {Q : Exit → AEnv → AHeap → Prop} {σ : AEnv} {H : AHeap} {id : Nat} {l : List Oper} (bs : List Bool) (al : List (Nat × AT)) (hm : P.follows .mixedOrders = true) (n : Nat) (ss : List (List (Nat × Nat))) (ci : List Nat)
    (hN : dstOk N l = true) (hB : phiOkC l.toArray n ss = true) (hss : Nat.ble n ss.length = true) (hC : chainOkA l.toArray n ss (al.map Prod.fst) ci = true) (hnd : ci.Nodup) (hna : (al.map Prod.fst).Nodup)
    (hal : ∀ p ∈ al, ∀ o, l[p.1]? = some o → o.guard = none ∧ ∀ σ' H', OpH P C N o σ' H' (fun r H'' => ∃ b, r = p.2.res b ∧ H'' = p.2.blk b :: H'))
    (h : chainP P N C σ (fun q : AHeap × (Nat → Bool × Blk) => q.1 ++ famT bs H q.2 0) (al.map Prod.fst ++ ci) (fun accP => ((al.map Prod.fst).all fun i => (lookR accP i).isNone) = true ∧
      ∀ ws : Nat → Nat, planK P C N σ (fun q : AHeap × (Nat → Bool × Blk) => q.1 ++ famT bs H q.2 0) accP (fun cacc H' => wpB P C N l.toArray Q (l.drop n) (finA (cacc ++ accP) (l.take n) 0 σ) H') (clOf l ss ci) (rA ws al) ((al.map fun p => p.2.blk (ws p.1)) ++ H)) (l.take n) ss 0 []) :
    wpA P C N (.region id l.toArray true) Q σ H := .padN (al := al) (by
  have hB0 := hB
  simp only [phiOkC, Bool.and_eq_true, Bool.or_eq_true] at hB
  obtain ⟨⟨⟨⟨⟨hle, hback⟩, hok⟩, hdst⟩, htail⟩, hseq⟩ := hB
  have hle' : n ≤ l.length := by simpa using Nat.le_of_ble_eq_true hle
  have hok' : ∀ i, i < n → opOkC l.toArray n ss i = true := fun i hi => List.all_eq_true.1 hok i (List.mem_range.2 hi)
  have hssl := Nat.le_of_ble_eq_true hss
  obtain ⟨full, ⟨hnone, hF⟩, _, hd⟩ := chainP_elim (l.take n) ss 0 [] (fun j r hj => by simp [lookR] at hj) h
  have hC2 := hC
  simp only [chainOkA, Bool.and_eq_true] at hC2
  obtain ⟨⟨⟨hC', _⟩, hks⟩, _⟩ := hC2
  unfold chainOk at hC'
  have hcin : ∀ i ∈ ci, i < n := fun i hi => by
    obtain ⟨m, hm⟩ := List.mem_iff_getElem?.1 hi
    have h1 := List.all_eq_true.1 hC' m (List.mem_range.2 (List.getElem?_eq_some_iff.1 hm).1)
    simp only [hm, Bool.and_eq_true] at h1
    simpa [Nat.blt_eq] using h1.1
  have hkin : ∀ i ∈ al.map Prod.fst, i < n ∧ i ∉ ci := fun i hi => by
    have h1 := List.all_eq_true.1 hks i hi
    simp only [Bool.and_eq_true, Bool.not_eq_true', List.contains_eq_mem, decide_eq_false_iff_not] at h1
    exact ⟨by simpa [Nat.blt_eq] using h1.1, h1.2⟩
  have hcl := clOf_get (l := l) (ss := ss) ci (fun i hi => ⟨_, _, List.getElem?_eq_getElem (Nat.lt_of_lt_of_le (hcin i hi) hle'), List.getElem?_eq_getElem (Nat.lt_of_lt_of_le (hcin i hi) hssl)⟩)
  have hp : ∀ i o s, i < n → i ∉ al.map Prod.fst ++ ci → l[i]? = some o → ss[i]? = some s → ∃ r, lookR full i = some r ∧ dutyQ P N C σ (fun q : AHeap × (Nat → Bool × Blk) => q.1 ++ famT bs H q.2 0) full o s r := fun i o s hi hic ho hsi => by
    obtain ⟨r, acc', h1, h2, h3⟩ := hd i o s (by rw [List.getElem?_take, if_pos hi]; exact ho) hsi (by simpa using hic)
    rw [Nat.zero_add] at h1 h3
    refine ⟨r, h1, fun H' => ?_⟩
    have hoi := hok' i hi
    unfold opOkC at hoi
    have ho' : l.toArray[i]? = some o := by simpa using ho
    simp only [ho', hsi, Bool.and_eq_true] at hoi
    have hback' : ∀ j, Region.waitsFor .any l.toArray i j = true → j < i := fun j hw => by
      obtain ⟨e, he, hb, heq⟩ := waits_mem ho' hw
      have hil : i < l.toArray.size := (Array.getElem?_eq_some_iff.1 ho').1
      have h4 := List.all_eq_true.1 hback i (List.mem_range.2 hil)
      simp only [ho', Array.all_eq_true_iff_forall_mem] at h4
      have h5 := h4 e he
      rw [hb] at h5
      have : e.on < i := by simpa [Nat.blt_eq] using h5
      omega
    -- sources that are no operand are looked at too
    have henv : ∀ t ∈ opTmps o, ∀ j, srcOf s t = some j → lookR acc' j = lookR full j := fun t ht j hj => by
      have h6 := List.all_eq_true.1 hoi.1 t ht
      unfold readOk at h6
      simp only [hj, Bool.and_eq_true] at h6
      exact h3 j (hback' j h6.2)
    have hdd := h2 H'
    unfold dutyA at hdd ⊢
    have he : ∀ ts, (∀ t ∈ ts, t ∈ opTmps o) → envOf σ acc' s ts = envOf σ full s ts := by
      intro ts
      induction ts with
      | nil => intro _; rfl
      | cons t ts ih =>
        intro hts
        simp only [envOf]
        cases hsrc : srcOf s t with
        | none => simp only [ih (fun u hu => hts u (List.mem_cons_of_mem _ hu))]
        | some j => simp only [henv t (hts t List.mem_cons_self) j hsrc, ih (fun u hu => hts u (List.mem_cons_of_mem _ hu))]
    rw [← he _ (fun t ht => ht)]
    cases hg : o.guard with
    | none => rw [hg] at hdd; exact hdd
    | some p =>
      obtain ⟨g, want⟩ := p
      rw [hg] at hdd
      have h6 := hoi.2
      rw [hg] at h6
      simp only [Bool.and_eq_true] at h6
      simp only at hdd ⊢
      rw [← h3 g (hback' g h6.1.2)]; exact hdd
  refine wpA.drawG (fun q : AHeap × (Nat → Bool × Blk) => q.1 ++ famT bs H q.2 0) hm n ss (al.map Prod.fst ++ ci) hN hB0 full
    (InvA P C N (fun q : AHeap × (Nat → Bool × Blk) => q.1 ++ famT bs H q.2 0) σ full (fun cacc H' => wpB P C N l.toArray Q (l.drop n) (finA (cacc ++ full) (l.take n) 0 σ) H') (clOf l ss ci) al ci H) ?_ hp ?_ ?_ ?_ ?_
  · refine .inl ⟨fun i _ => getD_replicate_false _ _, fun _ => 0, fun j => ?_, ?_⟩
    · rw [if_neg (by rw [getD_replicate_false]; decide)]; rfl
    · congr 1
      exact (List.map_congr_left fun p _ => by simp only [getD_replicate_false]; rfl)
  · rintro listed cacc H' (⟨_, ws, _, rfl⟩ | ⟨_, k, c1, _, _, _, hq⟩)
    · refine ⟨(hA (fun j => listed.getD j false) ws al, fun j => H.getD j hole0), ?_⟩
      have := famT_id (G := H) bs 0
      rw [List.drop_zero] at this
      simp only [this]
    · exact hq.tail
  · exact fun listed cacc H' i hi hni => hi.pure (fun e => hni (List.mem_append_right _ e)) (fun e => hni (List.mem_append_left _ e))
  · intro listed cacc H' i o s hi hic hol hs hun hw hlt
    rcases List.mem_append.1 hic with hk | hc
    · obtain ⟨p, hp, rfl⟩ := List.mem_map.1 hk
      obtain ⟨hg, hop⟩ := hal p hp o hol
      obtain ⟨F', h1, h2⟩ := hi.alloc hna hp (hkin _ hk).2 hun hlt
      refine ⟨hg, OpH.into h1 ((hop _ _).mono fun r H'' ⟨b, hr, hH⟩ => ⟨_, hH, fun r0 h0 => ?_, by rw [hr]; exact h2 b⟩)⟩
      have h3 := List.all_eq_true.1 hnone p.1 hk
      rw [h0] at h3; cases h3
    · exact hi.chain hC hcl hnd hF hc hol hs hun hw hlt
  · intro listed cacc H' hi hall
    have hfin : ∃ c1, (∀ j, lookR cacc j = lookR c1 j) ∧ wpB P C N l.toArray Q (l.drop n) (finA (c1 ++ full) (l.take n) 0 σ) H' := by
      have hlen : ∀ c : List Nat, (clOf l ss c).length ≤ c.length := by
        intro c
        induction c with
        | nil => exact Nat.le_refl _
        | cons i c ih =>
          simp only [clOf]
          split
          · simpa using ih
          · exact Nat.le_succ_of_le ih
      rcases hi with ⟨ha, ws, hb, hc⟩ | ⟨ha, k, c1, hk, hb, hc, hq⟩
      · have hci : ci = [] := by
          cases hci : ci with
          | nil => rfl
          | cons c r =>
            have h1 := hall c (hcin c (by rw [hci]; exact List.mem_cons_self))
            rw [ha c (by rw [hci]; exact List.mem_cons_self)] at h1; cases h1
        refine ⟨rA ws al, fun j => ?_, ?_⟩
        · rw [hb j]
          split
          · rfl
          · rename_i hn
            refine (lookR_rA_none fun hj => hn (hall j (hkin j hj).1)).symm
        · have hq := hF ws
          have e : clOf l ss ci = [] := by
            have := hlen ci
            rw [hci] at this ⊢; rfl
          rw [e, planK] at hq
          rw [hc, hA_all fun p hp => hall p.1 (hkin _ (List.mem_map_of_mem hp)).1]
          exact hq.2
      · have hk' : k = ci.length := by
          rcases Nat.lt_or_ge k ci.length with h | h
          · have := (hb k _ (List.getElem?_eq_getElem h)).1 (hall _ (hcin _ (List.getElem_mem h)))
            omega
          · omega
        rw [hk', List.drop_eq_nil_of_le (hlen ci), planK] at hq
        exact ⟨c1, hc, hq.2⟩
    obtain ⟨c1, h1, h2⟩ := hfin
    rw [finA_congr (b := c1 ++ full) fun j => by rw [lookR_append, lookR_append, h1 j]]
    exact h2)
theorem repH.dropL {n0 : Nat} {I : Im} : ∀ (m : Nat) {H : AHeap} {L : Lh}, repH n0 I H L → repH n0 I (H.drop m) (L.drop m)
  | 0, _, _, h => h
  | m + 1, [], _, h => by simp only [repH] at h; subst h; exact (show repH n0 I [] [] from rfl)
  | m + 1, B :: H, _, h => by obtain ⟨X, R, rfl, h1, h2⟩ := h; exact repH.dropL m h2
theorem mem_dropL {L : Lh} {m : Nat} {p : Nat × Obj} (h : p ∈ (L.drop m).flatten) : p ∈ L.flatten := by
  rw [← List.take_append_drop m L, List.flatten_append]; exact List.mem_append_right _ h
theorem FunH.introD {G : Gl} {P : Program} {f : FuncId} {fn : Func} {c : Code} {ags : List AV} {Hs : List Blk} {post : AV → List Blk → Prop} (hf : P.funcs[f]? = some fn) (hb : fn.body = some c) (hn : (fn.name == "runtime.NumGoroutine") = false)
    (N : Nat) (hN : fn.ntmps = N) (hl : Nat.ble ags.length N = true) (σ : AEnv) (hσ : argA ags 0 = σ) (H0 : AHeap) (hH : lentB Hs = H0)
    (h : ∀ C : Ctx, Ctx.Ok C → G.p C.I0 → wpA P C N c (endA P fn C (fun r H => ∃ m : Nat, post r ((H.drop m).map Prod.snd))) σ H0) : FunH G P f ags Hs post := fun I L vs hG hvs hL =>
  ⟨⟨fn, hf, hn, by simp [hb]⟩, fun w hm => calls_body hf hb N hN (by rw [hvs.len]; exact hl) hm (M := L.flatten.map Prod.fst) (fun p hp => List.mem_map_of_mem hp)
    ((h ⟨w, L.flatten.map Prod.fst, I, none⟩ (fun k hk => by
        obtain ⟨p, hp, rfl⟩ := List.mem_map.1 hk
        exact lt_of_get (hm.loc p hp)) hG (argEnv vs 0) I L ⟨by rw [← hσ]; exact hvs.env 0, by rw [← hH, lentB_eq]; exact hL.toH, Le.refl I⟩).mono fun e ρ J L hq => endA.q hq)
    fun v J L' w' hs hp => by
      obtain ⟨r, H, h1, h2, m, h3⟩ := hp
      refine ⟨v, J, L'.drop m, rfl, hs.chg, hs.im0, fun b h0 h1 => hs.new b h0 h1, ⟨hs.mem.im, fun p hp => hs.mem.loc p (mem_dropL hp), fun p hp => hs.mem.sep p (mem_dropL hp), ?_⟩, fun p hp => hs.own p (mem_dropL hp), r, _, h1, (h2.dropL m).toK, h3⟩
      have := hs.mem.nodup
      rw [← List.take_append_drop m L', List.flatten_append, List.map_append, List.nodup_append] at this
      exact this.2.1⟩
theorem wpA.nilOwn {P : Program} {C : Ctx} {N : Nat} {Q : Exit → AEnv → AHeap → Prop} {σ : AEnv} {H : AHeap} {c : Code} (E : TypeId) (α : Type) [r : Rep α] (k : wpA P C N c Q σ ((true, .own E (.slice none 0 0) ([] : List α)) :: H)) : wpA P C N c Q σ H := fun ρ I L hs =>
  wpS.pad (k ρ I ([] :: L) ⟨hs.env, ⟨[], L, rfl, ⟨⟨[], OwnG.nil E _, rfl⟩, fun _ p hp => by cases hp⟩, hs.heap⟩, hs.im0⟩)
theorem wpB.nilOwn {P : Program} {C : Ctx} {N : Nat} {ops : Array Oper} {Q : Exit → AEnv → AHeap → Prop} {os : List Oper} {σ : AEnv} {H : AHeap} (E : TypeId) (α : Type) [r : Rep α] (k : wpB P C N ops Q os σ ((true, .own E (.slice none 0 0) ([] : List α)) :: H)) : wpB P C N ops Q os σ H := fun ρ I L hs =>
  wpL.pad (k ρ I ([] :: L) ⟨hs.env, ⟨[], L, rfl, ⟨⟨[], OwnG.nil E _, rfl⟩, fun _ p hp => by cases hp⟩, hs.heap⟩, hs.im0⟩)
end Go.Ab
set_option linter.unusedVariables false
namespace Go.Ab
open Go.Fl Go.RowKit
open Rep (rep)
structure SlRaw where
  v : Value
instance : Inhabited SlRaw := ⟨⟨.slice none 0 0⟩⟩
instance : Rep SlRaw where
  size := 1
  agg := false
  rep _ x cs := cs = [x.v] ∧ x.v.oneCell' = true
  len h := by simp [h.1]
  mono _ h := h
  one _ := rfl
  flat h := by simp [h.1, ones, h.2]
instance : RepZ SlRaw := ⟨[.slice none 0 0], fun _ => ⟨rfl, rfl⟩⟩
structure GS (α : Type) where
  E : TypeId
  l : List α
section rules
variable {P : Program} {C : Ctx} {N : Nat} {σ : AEnv} {H : AHeap} {d : Option Nat} {ty : TypeId} {ps : String} {af : Array Edge} {g : Option (Nat × Bool)} {K : AV → Prop} {KH : AV → AHeap → Prop} {x y z : Operand} {T T2 E S D U : TypeId} {o : Oper}
theorem OpP.raw {s : SlRaw} (h : OpP P N C o σ H (fun r => r = .v s)) (k : K (.raw s.v)) : OpP P N C o σ H K := fun ρ I L hs a w ha hm => by
  refine (h ρ I L hs a w ha hm).mono ?_
  rintro v w' ⟨J, X, q1, q2, q3, q4, q5, q6, r, q7, rfl⟩
  obtain ⟨cs, ⟨rfl, _⟩, rfl⟩ := q7
  exact ⟨J, X, q1, q2, q3, q4, q5, q6, .raw s.v, rfl, k⟩
theorem OpP.ldR {α : Type} {r : Rep α} {w : Value} {l : Lens α SlRaw} {a : α} {bb : Bool} {F : Bool × Blk → AHeap} (f : α → SlRaw) (tT : TyIs P T SlRaw) (hx : EvA C σ H x (.ln w l)) (hH : Hole H (bb, .ob w a) F) (hf : ∀ x, l.get x = f x) (k : K (.raw (f a).v)) :
    OpP P N C ⟨d, .load T x, ty, ps, af, g⟩ σ H K := .raw (.ldF f tT hx hH hf rfl) k
theorem wpA.conv {Q : Exit → AEnv → AHeap → Prop} (t : Nat) {a : AV} (a' : AV) {c : Code} (ht : lookA σ t = some a) (h : ∀ n0 I L u, repH n0 I H L → RepV I a u → RepV I a' u) (k : wpA P C N c Q ((t, a') :: σ) H) : wpA P C N c Q σ H := fun ρ I L hs => by
  refine k ρ I L ⟨fun s b hb => ?_, hs.heap, hs.im0⟩
  rw [lookA_cons] at hb
  by_cases e : t = s
  · subst e; simp at hb; subst hb
    obtain ⟨u, h1, h2⟩ := hs.env t _ ht
    exact ⟨u, h1, h _ I L u hs.heap h2⟩
  · rw [if_neg e] at hb; exact hs.env s b hb
end rules
def Sel (H : AHeap) (Hs : List Blk) : Prop := ∀ n0 I L, repH n0 I H L → ∃ L' R, (L'.flatten ++ R).Perm L.flatten ∧ repK I Hs L'
theorem Sel.nil {H : AHeap} : Sel H [] := fun n0 I L h => ⟨[], L.flatten, by simp, rfl⟩
theorem Sel.cons {H : AHeap} {b : Bool} {B : Blk} {Hs : List Blk} {F : Bool × Blk → AHeap} (hh : Hole H (b, B) F) (h : Sel (F hole0) Hs) : Sel H (B :: Hs) := fun n0 I L hL => by
  obtain ⟨i, X, h1, h2, h3⟩ := hh.get hL
  have h4 := h3 I hole0 [] (Le.refl I) ⟨⟨rfl, trivial⟩, fun _ p hp => by cases hp⟩
  obtain ⟨L', R, h5, h6⟩ := h n0 I _ h4
  refine ⟨X :: L', R, ?_, X, L', rfl, h2.1, h6⟩
  have h7 : (L.set i [])[i]? = some [] := by
    have hi := (List.getElem?_eq_some_iff.1 h1).1
    simp [hi]
  have h8 := flatten_move h7 X
  have h9 : (L.set i []).set i X = L := by
    obtain ⟨hi, e⟩ := List.getElem?_eq_some_iff.1 h1
    rw [List.set_set, ← e, List.set_getElem_self]
  rw [h9] at h8
  rw [List.flatten_cons, List.append_assoc]
  exact (List.Perm.append_left X h5).trans h8.symm
theorem FunH.introS {G : Gl} {P : Program} {f : FuncId} {fn : Func} {c : Code} {ags : List AV} {Hs : List Blk} {post : AV → List Blk → Prop} (hf : P.funcs[f]? = some fn) (hb : fn.body = some c) (hn : (fn.name == "runtime.NumGoroutine") = false)
    (N : Nat) (hN : fn.ntmps = N) (hl : Nat.ble ags.length N = true) (σ : AEnv) (hσ : argA ags 0 = σ) (H0 : AHeap) (hH : lentB Hs = H0)
    (h : ∀ C : Ctx, Ctx.Ok C → G.p C.I0 → wpA P C N c (endA P fn C (fun r H => ∃ Hs', Sel H Hs' ∧ post r Hs')) σ H0) : FunH G P f ags Hs post := fun I L vs hG hvs hL =>
  ⟨⟨fn, hf, hn, by simp [hb]⟩, fun w hm => calls_body hf hb N hN (by rw [hvs.len]; exact hl) hm (M := L.flatten.map Prod.fst) (fun p hp => List.mem_map_of_mem hp)
    ((h ⟨w, L.flatten.map Prod.fst, I, none⟩ (fun k hk => by
        obtain ⟨p, hp, rfl⟩ := List.mem_map.1 hk
        exact lt_of_get (hm.loc p hp)) hG (argEnv vs 0) I L ⟨by rw [← hσ]; exact hvs.env 0, by rw [← hH, lentB_eq]; exact hL.toH, Le.refl I⟩).mono fun e ρ J L hq => endA.q hq)
    fun v J L' w' hs hp => by
      obtain ⟨r, H, h1, h2, Hs', h3, h4⟩ := hp
      obtain ⟨L2, R, h5, h6⟩ := h3 _ J L' h2
      have hin : ∀ p ∈ L2.flatten, p ∈ L'.flatten := fun p hp => h5.mem_iff.1 (List.mem_append_left _ hp)
      refine ⟨v, J, L2, rfl, hs.chg, hs.im0, fun b h0 h1 => hs.new b h0 h1, ⟨hs.mem.im, fun p hp => hs.mem.loc p (hin p hp), fun p hp => hs.mem.sep p (hin p hp), ?_⟩, fun p hp => hs.own p (hin p hp), r, _, h1, h6, h4⟩
      have := (h5.map Prod.fst).nodup_iff.2 hs.mem.nodup
      rw [List.map_append, List.nodup_append] at this
      exact this.1⟩
theorem FunH.mono {G : Gl} {P : Program} {f : FuncId} {ags : List AV} {Hs : List Blk} {post post' : AV → List Blk → Prop} (h : FunH G P f ags Hs post) (hp : ∀ r Hs, post r Hs → post' r Hs) : FunH G P f ags Hs post' := fun I L vs hG hvs hL => by
  have hM := h I L vs hG hvs hL
  refine ⟨hM.ok, fun w hm => (hM.run w hm).mono ?_⟩
  rintro e w' ⟨v, J, L', rfl, q1, q2, q3, q4, q5, r, Hs', q6, q7, q8⟩
  exact ⟨v, J, L', rfl, q1, q2, q3, q4, q5, r, Hs', q6, q7, hp r Hs' q8⟩
end Go.Ab
set_option linter.unusedVariables false
namespace Go.Ab
open Go.Fl Go.RowKit
open Rep (rep)
def leB : List Bool → List Bool → Bool
  | [], _ => true
  | a :: ags, [] => !a && leB ags []
  | a :: ags, b :: bs => (!a || b) && leB ags bs
theorem famT_nil (H : AHeap) (f : Nat → Bool × Blk) (k : Nat) : famT [] H f k = H := by simp [famT]
theorem famT_le : ∀ {a b : List Bool}, leB a b = true → ∀ (H : AHeap) (f : Nat → Bool × Blk) (k : Nat), ∃ f', famT a H f k = famT b H f' k
  | a, b, h, [], f, k => ⟨f, by cases a <;> cases b <;> simp [famT]⟩
  | [], b, h, B :: H, f, k => ⟨fun j => (B :: H).getD (j - k) hole0, by
      rw [famT_nil]
      have key : ∀ (b : List Bool) (G : AHeap) (j : Nat), (∀ m, m < G.length → (B :: H).getD (j + m - k) hole0 = G.getD m hole0) → G = famT b G (fun j => (B :: H).getD (j - k) hole0) j := by
        intro b
        induction b with
        | nil => intro G j _; rw [famT_nil]
        | cons x b ih =>
          intro G j hG
          cases G with
          | nil => simp [famT]
          | cons A G =>
            have h0 := hG 0 (by simp)
            simp only [famT]
            have h1 : (bif x then (B :: H).getD (j - k) hole0 else A) = A := by
              cases x
              · rfl
              · simpa using h0
            rw [h1, ← ih G (j + 1) (fun m hm => by
              have := hG (m + 1) (by simp; omega)
              rw [show j + 1 + m - k = j + (m + 1) - k by omega, this]; simp)]
      exact key b (B :: H) k (fun m hm => by rw [show k + m - k = m by omega])⟩
  | x :: a, [], h, B :: H, f, k => by
    simp only [leB, Bool.and_eq_true, Bool.not_eq_true'] at h
    obtain ⟨f', hf'⟩ := famT_le (b := []) h.2 H f (k + 1)
    rw [famT_nil] at hf'
    exact ⟨f, by rw [famT_nil]; simp only [famT, h.1, cond_false, hf']⟩
  | x :: a, y :: b, h, B :: H, f, k => by
    simp only [leB, Bool.and_eq_true] at h
    obtain ⟨f', hf'⟩ := famT_le h.2 H f (k + 1)
    have hcongr : ∀ (b : List Bool) (H : AHeap) (f g : Nat → Bool × Blk) (k : Nat), (∀ j, k ≤ j → f j = g j) → famT b H f k = famT b H g k := by
      intro b
      induction b with
      | nil => intro H f g k _; rw [famT_nil, famT_nil]
      | cons x b ih =>
        intro H f g k hfg
        cases H with
        | nil => simp [famT]
        | cons A H => simp only [famT]; rw [hfg k (Nat.le_refl _), ih H f g (k + 1) (fun j hj => hfg j (by omega))]
    refine ⟨fun j => if j = k then (bif x then f k else B) else f' j, ?_⟩
    simp only [famT, if_true]
    rw [hf', hcongr b H f' (fun j => if j = k then (bif x then f k else B) else f' j) (k + 1) (fun j hj => by rw [if_neg (by omega)])]
    cases x with
    | false => cases y <;> rfl
    | true =>
      have : y = true := by simpa using h.1
      subst this; rfl
def chainQ (P : Program) (N : Nat) (C : Ctx) (σ0 : AEnv) {ι : Type 1} (HT : Nat → ι → AHeap) (ci : List Nat) (F : List (Nat × AV) → Prop) : List Oper → List (List (Nat × Nat)) → Nat → List (Nat × AV) → Prop
  | [], _, _, acc => F acc
  | o :: os, s :: ss, k, acc => bif ci.contains k then chainQ P N C σ0 HT ci F os ss (k + 1) acc ∨ ∃ r, chainQ P N C σ0 HT ci F os ss (k + 1) ((k, r) :: acc) else ∃ r, dutyQ P N C σ0 (HT k) acc o s r ∧ chainQ P N C σ0 HT ci F os ss (k + 1) ((k, r) :: acc)
  | _, [], _, _ => False
theorem chainQ_elim {P : Program} {N : Nat} {C : Ctx} {σ0 : AEnv} {ι : Type 1} {HT : Nat → ι → AHeap} {ci : List Nat} {F : List (Nat × AV) → Prop} : ∀ (os : List Oper) (ss : List (List (Nat × Nat))) (k : Nat) (acc : List (Nat × AV)), (∀ j r, lookR acc j = some r → j < k) → chainQ P N C σ0 HT ci F os ss k acc →
    ∃ full, F full ∧ (∀ j, j < k → lookR full j = lookR acc j) ∧
      ∀ i o s, os[i]? = some o → ss[i]? = some s → k + i ∉ ci → ∃ r acc', lookR full (k + i) = some r ∧ dutyQ P N C σ0 (HT (k + i)) acc' o s r ∧ ∀ j, j < k + i → lookR acc' j = lookR full j
  | [], ss, k, acc, hacc, h => ⟨acc, by cases ss <;> exact h, fun _ _ => rfl, fun i o s ho => by simp at ho⟩
  | o :: os, [], k, acc, _, h => h.elim
  | o :: os, s :: ss, k, acc, hacc, h => by
    simp only [chainQ] at h
    have hacc2 : ∀ r, ∀ j q, lookR ((k, r) :: acc) j = some q → j < k + 1 := fun r j q hj => by
      rw [lookR_cons] at hj
      by_cases e : k = j
      · omega
      · rw [if_neg e] at hj; have := hacc j q hj; omega
    cases hc : ci.contains k with
    | true =>
      rw [hc] at h
      simp only [cond_true] at h
      have fin : ∀ acc2, (∀ j, j < k → lookR acc2 j = lookR acc j) → (∀ j r, lookR acc2 j = some r → j < k + 1) → chainQ P N C σ0 HT ci F os ss (k + 1) acc2 → ∃ full, F full ∧ (∀ j, j < k → lookR full j = lookR acc j) ∧
          ∀ i o' s', (o :: os)[i]? = some o' → (s :: ss)[i]? = some s' → k + i ∉ ci → ∃ r acc', lookR full (k + i) = some r ∧ dutyQ P N C σ0 (HT (k + i)) acc' o' s' r ∧ ∀ j, j < k + i → lookR acc' j = lookR full j := fun acc2 ha hb h => by
        obtain ⟨full, hF, h1, h3⟩ := chainQ_elim os ss (k + 1) acc2 hb h
        refine ⟨full, hF, fun j hj => (h1 j (by omega)).trans (ha j hj), fun i o' s' ho hs hni => ?_⟩
        cases i with
        | zero => exact absurd (by simpa using hc) hni
        | succ i =>
          have e : k + (i + 1) = k + 1 + i := by omega
          rw [e]
          exact h3 i o' s' (by simpa using ho) (by simpa using hs) (by rw [← e]; exact hni)
      rcases h with h | ⟨r, h⟩
      · exact fin acc (fun _ _ => rfl) (fun j r hj => Nat.lt_succ_of_lt (hacc j r hj)) h
      · exact fin ((k, r) :: acc) (fun j hj => by rw [lookR_cons, if_neg (by omega)]) (hacc2 r) h
    | false =>
      rw [hc] at h
      simp only [cond_false] at h
      obtain ⟨r, hd, h⟩ := h
      obtain ⟨full, hF, h1, h3⟩ := chainQ_elim os ss (k + 1) ((k, r) :: acc) (hacc2 r) h
      refine ⟨full, hF, fun j hj => by rw [h1 j (by omega), lookR_cons, if_neg (by omega)], fun i o' s' ho hs hni => ?_⟩
      cases i with
      | zero =>
        simp only [List.getElem?_cons_zero, Option.some.injEq] at ho hs
        subst ho; subst hs
        refine ⟨r, acc, by rw [Nat.add_zero, h1 k (by omega), lookR_cons, if_pos rfl], hd, fun j hj => ?_⟩
        rw [Nat.add_zero] at hj
        rw [h1 j (by omega), lookR_cons, if_neg (by omega)]
      | succ i =>
        have e : k + (i + 1) = k + 1 + i := by omega
        rw [e]
        exact h3 i o' s' (by simpa using ho) (by simpa using hs) (by rw [← e]; exact hni)
def famOk (ops : Array Oper) (n : Nat) (ks ci : List Nat) (bks qs : List (List Bool)) : Bool :=
  (List.range n).all fun i => ks.contains i || ci.contains i || (List.range (ci.length + 1)).all fun k => (List.range k).any (fun m => match ci[m]? with | some j => Region.waitsFor .any ops j i | none => false) || leB (bks.getD k []) (qs.getD i [])
theorem envOf_congr' {σ0 : AEnv} {a b : List (Nat × AV)} {s : List (Nat × Nat)} : ∀ {ts : List Nat}, (∀ t ∈ ts, ∀ j, srcOf s t = some j → lookR a j = lookR b j) → envOf σ0 a s ts = envOf σ0 b s ts
  | [], _ => rfl
  | t :: ts, h => by
    simp only [envOf]
    have h1 := envOf_congr' (σ0 := σ0) (fun u hu => h u (List.mem_cons_of_mem _ hu))
    cases hs : srcOf s t with
    | none => simp only [h1]
    | some j => simp only [h t List.mem_cons_self j hs, h1]
def lateQ (P : Program) (N : Nat) (C : Ctx) (σ0 : AEnv) {ι : Type 1} (HT : ι → AHeap) (acc : List (Nat × AV)) (o : Oper) (s : List (Nat × Nat)) (r : AV) : Prop := ∀ Hp, OpP P N C o (envOf σ0 acc s (opTmps o)) (HT Hp) (fun r' => r' = r)
def prom (P : Program) (N : Nat) (C : Ctx) (σ0 : AEnv) {ι : Type 1} (HT : Nat → ι → AHeap) (accP : List (Nat × AV)) : List (Nat × Oper × List (Nat × Nat)) → List (Nat × AV) → (List (Nat × AV) → Prop) → Prop
  | [], c, K => K c
  | (i, o, s) :: rest, c, K => ∃ r, lateQ P N C σ0 (HT i) (c ++ accP) o s r ∧ prom P N C σ0 HT accP rest ((i, r) :: c) K
def srcFree (ss : List (List (Nat × Nat))) (i : Nat) (L : List Nat) : Bool := match ss[i]? with | some s => s.all (fun p => !(L.contains p.2)) | none => true
theorem srcFree_get {ss : List (List (Nat × Nat))} {i : Nat} {L : List Nat} {s : List (Nat × Nat)} (h : srcFree ss i L = true) (hs : ss[i]? = some s) {t j : Nat} (hj : srcOf s t = some j) : j ∉ L := by
  unfold srcFree at h
  rw [hs] at h
  have h2 := List.all_eq_true.1 h (t, j) (srcOf_mem hj)
  simpa using h2
def lateL (ss : List (List (Nat × Nat))) : List Nat → Bool
  | [] => true
  | i :: r => srcFree ss i (i :: r) && !(r.contains i) && lateL ss r
theorem prom_elim {P : Program} {N : Nat} {C : Ctx} {σ0 : AEnv} {ι : Type 1} {HT : Nat → ι → AHeap} {accP : List (Nat × AV)} {l : List Oper} {ss : List (List (Nat × Nat))} {K : List (Nat × AV) → Prop} : ∀ {L : List Nat} {c : List (Nat × AV)}, lateL ss L = true → prom P N C σ0 HT accP (clOf l ss L) c K →
    ∃ c', K c' ∧ (∀ j, j ∉ L → lookR c' j = lookR c j) ∧ ∀ i o s, i ∈ L → l[i]? = some o → ss[i]? = some s → ∃ r, lookR c' i = some r ∧ lateQ P N C σ0 (HT i) (c' ++ accP) o s r
  | [], c, _, h => ⟨c, h, fun _ _ => rfl, fun i o s hi => by cases hi⟩
  | i :: L, c, hL, h => by
    simp only [lateL, Bool.and_eq_true, Bool.not_eq_true', List.contains_eq_mem, decide_eq_false_iff_not] at hL
    obtain ⟨⟨h1, h2⟩, h3⟩ := hL
    cases ho : l[i]? with
    | none =>
      simp only [clOf, ho] at h
      obtain ⟨c', k1, k2, k3⟩ := prom_elim h3 h
      exact ⟨c', k1, fun j hj => k2 j (fun hx => hj (List.mem_cons_of_mem _ hx)), fun i' o s hi ho' hs => by
        rcases List.mem_cons.1 hi with rfl | hi
        · rw [ho] at ho'; cases ho'
        · exact k3 i' o s hi ho' hs⟩
    | some o =>
      cases hs : ss[i]? with
      | none =>
        simp only [clOf, ho, hs] at h
        obtain ⟨c', k1, k2, k3⟩ := prom_elim h3 h
        exact ⟨c', k1, fun j hj => k2 j (fun hx => hj (List.mem_cons_of_mem _ hx)), fun i' o s hi ho' hs' => by
          rcases List.mem_cons.1 hi with rfl | hi
          · rw [hs] at hs'; cases hs'
          · exact k3 i' o s hi ho' hs'⟩
      | some s =>
        simp only [clOf, ho, hs, prom] at h
        obtain ⟨r, hd, h⟩ := h
        obtain ⟨c', k1, k2, k3⟩ := prom_elim h3 h
        refine ⟨c', k1, fun j hj => ?_, fun i' o' s' hi ho' hs' => ?_⟩
        · rw [List.mem_cons, not_or] at hj
          rw [k2 j hj.2, lookR_cons, if_neg (Ne.symm hj.1)]
        · rcases List.mem_cons.1 hi with rfl | hi
          · rw [ho] at ho'; cases ho'
            rw [hs] at hs'; cases hs'
            refine ⟨r, by rw [k2 i' h2, lookR_cons, if_pos rfl], fun Hp => ?_⟩
            have he : envOf σ0 (c' ++ accP) s (opTmps o) = envOf σ0 (c ++ accP) s (opTmps o) := envOf_congr' fun t _ j hj => by
              have hj2 := srcFree_get h1 hs hj
              rw [List.mem_cons, not_or] at hj2
              rw [lookR_append, lookR_append, k2 j hj2.2, lookR_cons, if_neg (Ne.symm hj2.1)]
            rw [he]; exact hd Hp
          · exact k3 i' o' s' hi ho' hs'
section
variable (P : Program) (C : Ctx) (N : Nat) (σ0 : AEnv) (bs : Nat → List Bool) (HT : Nat → (AHeap × (Nat → Bool × Blk)) → AHeap) (lps : Nat → List (Nat × Oper × List (Nat × Nat))) (H0 : AHeap) (accP : List (Nat × AV)) (al : List (Nat × AT)) (F : List (Nat × AV) → AHeap → AHeap → Prop)
def planZ : List (Nat × Oper × List (Nat × Nat)) → Nat → List (Nat × AV) → AHeap → AHeap → Prop
  | [], k, cacc, Zs, Hr => (∃ f, Hr = famT (bs k) H0 f 0) ∧ ∀ ws : Nat → Nat, F (cacc ++ rA ws al) (Zs ++ (al.map fun p => p.2.blk (ws p.1))) Hr
  | (i, o, s) :: rest, k, cacc, Zs, Hr => (∃ f, Hr = famT (bs k) H0 f 0) ∧ ∀ Ys : AHeap,
    match lookR accP i with
    | none => OpH P C N o (envOf σ0 (cacc ++ accP) s (opTmps o)) (Zs ++ (Ys ++ Hr)) (fun r H' => ∃ Zs' Hr', H' = Zs' ++ (Ys ++ Hr') ∧ prom P N C σ0 HT accP (lps (k + 1)) ((i, r) :: cacc) (fun c => planZ rest (k + 1) c Zs' Hr'))
    | some r0 => OpH P C N o (envOf σ0 (cacc ++ accP) s (opTmps o)) (Zs ++ (Ys ++ Hr)) (fun r H' => r = r0 ∧ ∃ Zs' Hr', H' = Zs' ++ (Ys ++ Hr') ∧ prom P N C σ0 HT accP (lps (k + 1)) ((i, r0) :: cacc) (fun c => planZ rest (k + 1) c Zs' Hr'))
end
theorem planZ.fam {P : Program} {C : Ctx} {N : Nat} {σ0 : AEnv} {bs : Nat → List Bool} {HT : Nat → (AHeap × (Nat → Bool × Blk)) → AHeap} {lps : Nat → List (Nat × Oper × List (Nat × Nat))} {H0 : AHeap} {accP : List (Nat × AV)} {al : List (Nat × AT)} {F : List (Nat × AV) → AHeap → AHeap → Prop} {l : List (Nat × Oper × List (Nat × Nat))} {k : Nat} {cacc : List (Nat × AV)} {Zs Hr : AHeap}
    (h : planZ P C N σ0 bs HT lps H0 accP al F l k cacc Zs Hr) : ∃ f, Hr = famT (bs k) H0 f 0 := by
  cases l with
  | nil => exact h.1
  | cons p l => exact h.1
def guardless (ops : Array Oper) (i : Nat) : Bool := match ops[i]? with | some o => o.guard.isNone | none => false
def chainOkZ (ops : Array Oper) (n : Nat) (ss : List (List (Nat × Nat))) (ks ci : List Nat) (lps : List (List Nat)) (kA : Nat) : Bool :=
  chainOk ops n ss ci && ci.all (guardless ops) && ks.all (fun i => Nat.blt i n && !(ci.contains i)) && (ci.take kA).all (fun i => srcFree ss i ks) && (ci.drop kA).all (fun i => ks.all (fun j => Region.waitsFor .any ops i j)) &&
  (List.range (ci.length + 1)).all (fun m => (lps.getD m []).all (fun i => Nat.blt i n && !(ci.contains i) && !(ks.contains i) && guardless ops i && srcFree ss i ks &&
    (match m with | 0 => false | m' + 1 => (match ci[m']? with | some j => Region.waitsFor .any ops i j | none => false) || (lps.getD m []).any (fun j => Region.waitsFor .any ops i j)) &&
    (List.range (ci.length + 1)).all (fun m2 => Nat.ble m2 m || (match m2 with | 0 => true | m3 + 1 => match ci[m3]? with | some j => srcFree ss i [j] | none => true) && srcFree ss i (lps.getD m2 []) && !((lps.getD m2 []).contains i))) && lateL ss (lps.getD m []))
def lpMem (lps : List (List Nat)) (q i : Nat) : Prop := ∃ m, m ≤ q ∧ i ∈ lps.getD m []
structure InvZ (P : Program) (C : Ctx) (N : Nat) (σ : AEnv) (bs : Nat → List Bool) (HT : Nat → (AHeap × (Nat → Bool × Blk)) → AHeap) (l : List Oper) (ss : List (List (Nat × Nat))) (lps : List (List Nat)) (H0 : AHeap) (full : List (Nat × AV)) (F : List (Nat × AV) → AHeap → AHeap → Prop) (al : List (Nat × AT)) (ci : List Nat) (cp : List (Nat × Oper × List (Nat × Nat)))
    (k : Nat) (c1 : List (Nat × AV)) (Zs Hr : AHeap) (ws : Nat → Nat) (listed : Array Bool) (cacc : List (Nat × AV)) (H : AHeap) : Prop where
  w : ∀ j ∈ ci, listed.getD j false = true → ∀ i, Region.waitsFor .any l.toArray j i = true → listed.getD i false = true
  kle : k ≤ ci.length
  kp : k ≤ cp.length
  ch : ∀ m i, ci[m]? = some i → (listed.getD i false = true ↔ m < k)
  al0 : ∀ j, j ∈ al.map Prod.fst → lookR c1 j = none
  oth : ∀ j, j ∉ al.map Prod.fst → ¬ lpMem lps ci.length j → lookR cacc j = lookR c1 j
  al1 : ∀ j, j ∈ al.map Prod.fst → lookR cacc j = if listed.getD j false = true then lookR (rA ws al) j else none
  lp : ∀ j, lpMem lps ci.length j → lookR cacc j = (if listed.getD j false = true then lookR c1 j else none) ∧ (listed.getD j false = true → lpMem lps k j)
  due : ∀ m i o s, m ≤ k → i ∈ lps.getD m [] → l[i]? = some o → ss[i]? = some s → ∃ r, lookR c1 i = some r ∧ lateQ P N C σ (HT i) (c1 ++ full) o s r
  H : H = Zs ++ (hA (fun j => listed.getD j false) ws al ++ Hr)
  pl : planZ P C N σ bs HT (fun k => clOf l ss (lps.getD k [])) H0 full al F (cp.drop k) k c1 Zs Hr
theorem getD_mono' {listed : Array Bool} (i : Nat) {j : Nat} (h : listed.getD j false = true) : (listed.setIfInBounds i true).getD j false = true := by
  by_cases e : j = i
  · subst e
    rcases Nat.lt_or_ge j listed.size with h2 | h2
    · exact getD_set_true' h2
    · simp [Array.getElem?_eq_none h2] at h
  · rw [getD_set_ne false (Ne.symm e)]; exact h
section
variable {P : Program} {C : Ctx} {N n : Nat} {σ : AEnv} {bs : Nat → List Bool} {HT : Nat → (AHeap × (Nat → Bool × Blk)) → AHeap} {lps : List (List Nat)} {full : List (Nat × AV)} {F : List (Nat × AV) → AHeap → AHeap → Prop} {l : List Oper} {cp : List (Nat × Oper × List (Nat × Nat))} {kA : Nat} {ss : List (List (Nat × Nat))} {al : List (Nat × AT)} {ci : List Nat} {H0 : AHeap} {listed : Array Bool} {cacc c1 : List (Nat × AV)} {H Zs Hr : AHeap} {k : Nat} {ws : Nat → Nat}
structure OkZ (l : List Oper) (n : Nat) (ss : List (List (Nat × Nat))) (ks ci : List Nat) (lps : List (List Nat)) (kA : Nat) : Prop where
  chain : chainOk l.toArray n ss ci = true
  cg : ∀ i ∈ ci, guardless l.toArray i = true
  ksn : ∀ i ∈ ks, i < n ∧ i ∉ ci
  csrc : ∀ m i, m < kA → ci[m]? = some i → srcFree ss i ks = true
  calc_ : ∀ m i, kA ≤ m → ci[m]? = some i → ∀ j ∈ ks, Region.waitsFor .any l.toArray i j = true
  lp : ∀ m i, m ≤ ci.length → i ∈ lps.getD m [] → i < n ∧ i ∉ ci ∧ i ∉ ks ∧ guardless l.toArray i = true ∧ srcFree ss i ks = true ∧ (m ≠ 0 ∧ ∃ j, Region.waitsFor .any l.toArray i j = true ∧ ((∃ m', m = m' + 1 ∧ ci[m']? = some j) ∨ j ∈ lps.getD m [])) ∧
    ∀ m2, m < m2 → m2 ≤ ci.length → (∀ m3 j, m2 = m3 + 1 → ci[m3]? = some j → srcFree ss i [j] = true) ∧ srcFree ss i (lps.getD m2 []) = true ∧ i ∉ lps.getD m2 []
  late : ∀ m, m ≤ ci.length → lateL ss (lps.getD m []) = true
theorem okZ {ks : List Nat} (h : chainOkZ l.toArray n ss ks ci lps kA = true) : OkZ l n ss ks ci lps kA := by
  simp only [chainOkZ, Bool.and_eq_true] at h
  obtain ⟨⟨⟨⟨⟨h1, h2⟩, h3⟩, h4⟩, h4b⟩, h5⟩ := h
  refine ⟨h1, fun i hi => List.all_eq_true.1 h2 i hi, fun i hi => ?_, fun m i hm hi => List.all_eq_true.1 h4 i (List.mem_of_getElem? (i := m) (by rw [List.getElem?_take, if_pos hm]; exact hi)),
    fun m i hm hi j hj => List.all_eq_true.1 (List.all_eq_true.1 h4b i (List.mem_of_getElem? (i := m - kA) (by rw [List.getElem?_drop, show kA + (m - kA) = m by omega]; exact hi))) j hj, fun m i hm hi => ?_, fun m hm => ?_⟩
  · have := List.all_eq_true.1 h3 i hi
    simp only [Bool.and_eq_true, Bool.not_eq_true', List.contains_eq_mem, decide_eq_false_iff_not] at this
    exact ⟨by simpa [Nat.blt_eq] using this.1, this.2⟩
  · have h6 := List.all_eq_true.1 h5 m (List.mem_range.2 (by omega))
    rw [Bool.and_eq_true] at h6
    have h7 := List.all_eq_true.1 h6.1 i hi
    simp only [Bool.and_eq_true, Bool.not_eq_true', List.contains_eq_mem, decide_eq_false_iff_not] at h7
    obtain ⟨⟨⟨⟨⟨⟨a1, a2⟩, a3⟩, a4⟩, a5⟩, a6⟩, a7⟩ := h7
    refine ⟨by simpa [Nat.blt_eq] using a1, a2, a3, a4, a5, ?_, fun m2 hlt hle => ?_⟩
    · cases m with
      | zero => cases a6
      | succ m' =>
        simp only [Bool.or_eq_true] at a6
        refine ⟨by omega, ?_⟩
        rcases a6 with a6 | a6
        · cases hc : ci[m']? with
          | none => rw [hc] at a6; cases a6
          | some j => rw [hc] at a6; exact ⟨j, a6, .inl ⟨m', rfl, hc⟩⟩
        · obtain ⟨j, hj, hw⟩ := List.any_eq_true.1 a6
          exact ⟨j, hw, .inr hj⟩
    · have h8 := List.all_eq_true.1 a7 m2 (List.mem_range.2 (by omega))
      simp only [Bool.or_eq_true, Bool.and_eq_true, Bool.not_eq_true', decide_eq_false_iff_not] at h8
      rcases h8 with h8 | h8
      · have := Nat.le_of_ble_eq_true h8; omega
      · refine ⟨fun m3 j e hj => ?_, h8.1.2, h8.2⟩
        subst e
        have := h8.1.1
        simp only [hj] at this
        exact this
  · have h6 := List.all_eq_true.1 h5 m (List.mem_range.2 (by omega))
    rw [Bool.and_eq_true] at h6
    exact h6.2
theorem srcFree_nil (i : Nat) : srcFree ss i [] = true := by
  unfold srcFree
  cases ss[i]? with
  | none => rfl
  | some s => simp
theorem OkZ.zero {ks : List Nat} (h : OkZ l n ss ks ci lps kA) : OkZ l n ss (([] : List (Nat × AT)).map Prod.fst) ci lps ci.length := by
  refine ⟨h.chain, h.cg, fun i hi => (by cases hi), fun m i _ _ => srcFree_nil i, fun m i hm hi => ?_, fun m i hm hi => ?_, h.late⟩
  · have := (List.getElem?_eq_some_iff.1 hi).1; omega
  · obtain ⟨b1, b2, b3, b4, b5, b6, b7⟩ := h.lp m i hm hi
    exact ⟨b1, b2, by simp, b4, srcFree_nil i, b6, b7⟩
theorem lpMem_mono {q q' j : Nat} (h : lpMem lps q j) (hq : q ≤ q') : lpMem lps q' j := by obtain ⟨m, h1, h2⟩ := h; exact ⟨m, Nat.le_trans h1 hq, h2⟩
theorem lpMem_one (hz : OkZ l n ss (al.map Prod.fst) ci lps kA) {m q j : Nat} (hm : m ≤ ci.length) (hq : q ≤ ci.length) (h : j ∈ lps.getD m []) (hl : lpMem lps q j) : m ≤ q := by
  obtain ⟨m2, h1, h2⟩ := hl
  rcases Nat.lt_or_ge m2 m with h3 | h3
  · exact absurd h ((hz.lp m2 j (by omega) h2).2.2.2.2.2.2 m h3 hm).2.2
  · omega
theorem InvZ.pure (hz : OkZ l n ss (al.map Prod.fst) ci lps kA) {i : Nat} (h : InvZ P C N σ bs HT l ss lps H0 full F al ci cp k c1 Zs Hr ws listed cacc H) (h1 : i ∉ ci) (h2 : i ∉ al.map Prod.fst) (h3 : ¬ lpMem lps ci.length i) : InvZ P C N σ bs HT l ss lps H0 full F al ci cp k c1 Zs Hr ws (listed.setIfInBounds i true) cacc H := by
  have hput : ∀ j, j ≠ i → (listed.setIfInBounds i true).getD j false = listed.getD j false := fun j hj => getD_set_ne false (Ne.symm hj)
  refine ⟨fun j hj hl q hq => getD_mono' i (h.w j hj (by rwa [hput j (fun e => h1 (e ▸ hj))] at hl) q hq), h.kle, h.kp, fun m j hj => ?_, h.al0, h.oth, fun j hj => ?_, fun j hj => ?_, h.due, ?_, h.pl⟩
  · rw [hput j (fun e => h1 (e ▸ List.mem_of_getElem? hj))]; exact h.ch m j hj
  · rw [hput j (fun e => h2 (e ▸ hj))]; exact h.al1 j hj
  · rw [hput j (fun e => h3 (e ▸ hj))]; exact h.lp j hj
  · rw [h.H]
    congr 2
    exact hA_congr fun p hp => ⟨(hput p.1 (fun e => h2 (e ▸ List.mem_map_of_mem hp))).symm, rfl⟩
theorem InvZ.alloc (hz : OkZ l n ss (al.map Prod.fst) ci lps kA) {p : Nat × AT} (hn : (al.map Prod.fst).Nodup) (hp : p ∈ al) (h : InvZ P C N σ bs HT l ss lps H0 full F al ci cp k c1 Zs Hr ws listed cacc H) (hun : listed.getD p.1 false = false) (hlt : p.1 < listed.size) :
    ∃ F', Hole H hole0 F' ∧ ∀ b, InvZ P C N σ bs HT l ss lps H0 full F al ci cp k c1 Zs Hr (upd ws p.1 b) (listed.setIfInBounds p.1 true) ((p.1, p.2.res b) :: cacc) (F' (p.2.blk b)) := by
  have hput : ∀ j, j ≠ p.1 → (listed.setIfInBounds p.1 true).getD j false = listed.getD j false := fun j hj => getD_set_ne false (Ne.symm hj)
  have hset : (listed.setIfInBounds p.1 true).getD p.1 false = true := getD_set_true' hlt
  have hpm : p.1 ∈ al.map Prod.fst := List.mem_map_of_mem hp
  have hd : p.1 ∉ ci := (hz.ksn p.1 hpm).2
  have hlp : ¬ lpMem lps ci.length p.1 := fun ⟨m, hm, hx⟩ => (hz.lp m p.1 hm hx).2.2.1 hpm
  obtain ⟨F', h1, h2⟩ := hA_hole (f := fun j => listed.getD j false) (ws := ws) (H0 := Hr) hn hp hun
  have hH := h.H
  subst hH
  refine ⟨fun X => Zs ++ F' X, Hole.app h1, fun b => ⟨fun j hj hl q hq => getD_mono' p.1 (h.w j hj (by rwa [hput j (fun e => hd (e ▸ hj))] at hl) q hq), h.kle, h.kp, fun m j hj => ?_, h.al0, fun j hj hj2 => ?_, fun j hj => ?_, fun j hj => ?_, h.due, ?_, h.pl⟩⟩
  · rw [hput j (fun e => hd (e ▸ List.mem_of_getElem? hj))]; exact h.ch m j hj
  · rw [lookR_cons, if_neg (fun e : p.1 = j => hj (e ▸ hpm))]; exact h.oth j hj hj2
  · rw [lookR_cons]
    by_cases e : p.1 = j
    · subst e
      rw [if_pos rfl, if_pos hset, lookR_rA hn hp]
      simp [upd]
    · rw [if_neg e, hput j (Ne.symm e), h.al1 j hj, lookR_rA_congr (ws := ws) (ws' := upd ws p.1 b) (by simp [upd, Ne.symm e])]
  · have hne : p.1 ≠ j := fun e => hlp (e ▸ hj)
    rw [lookR_cons, if_neg hne, hput j (Ne.symm hne)]; exact h.lp j hj
  · show Zs ++ F' (p.2.blk b) = _
    rw [h2 b]
    congr 2
    refine hA_congr fun q hq => ⟨?_, rfl⟩
    by_cases e : q.1 = p.1
    · rw [e, if_pos rfl, hset]
    · rw [if_neg e, hput _ e]
theorem InvZ.env (h : InvZ P C N σ bs HT l ss lps H0 full F al ci cp k c1 Zs Hr ws listed cacc H) {i : Nat} {o : Oper} {s : List (Nat × Nat)} (hok : opOkC l.toArray n ss i = true) (hol : l[i]? = some o) (hs : ss[i]? = some s) (hsf : srcFree ss i (al.map Prod.fst) = true) (hw : ∀ j, Region.waitsFor .any l.toArray i j = true → listed.getD j false = true) :
    envOf σ (cacc ++ full) s (opTmps o) = envOf σ (c1 ++ full) s (opTmps o) := envOf_congr' fun t ht j hj => by
  unfold opOkC at hok
  have ho' : l.toArray[i]? = some o := by simpa using hol
  simp only [ho', hs, Bool.and_eq_true] at hok
  have h6 := List.all_eq_true.1 hok.1 t ht
  unfold readOk at h6
  simp only [hj, Bool.and_eq_true] at h6
  have hlj := hw j h6.2
  rw [lookR_append, lookR_append]
  by_cases hjl : lpMem lps ci.length j
  · rw [(h.lp j hjl).1, if_pos hlj]
  · rw [h.oth j (srcFree_get hsf hs hj) hjl]
theorem InvZ.late (hz : OkZ l n ss (al.map Prod.fst) ci lps kA) (hok : ∀ i, i < n → opOkC l.toArray n ss i = true) {m i : Nat} {o : Oper} {s : List (Nat × Nat)} (hm : m ≤ ci.length) (him : i ∈ lps.getD m [])
    (h : InvZ P C N σ bs HT l ss lps H0 full F al ci cp k c1 Zs Hr ws listed cacc H) (hol : l[i]? = some o) (hs : ss[i]? = some s) (hw : ∀ j, Region.waitsFor .any l.toArray i j = true → listed.getD j false = true) (hlt : i < listed.size) (hfam : ∃ q, H = HT i q) (hnone : lookR full i = none) :
    o.guard = none ∧ OpH P C N o (envOf σ (cacc ++ full) s (opTmps o)) H (fun r H' => (∀ r0, lookR full i = some r0 → r = r0) ∧ InvZ P C N σ bs HT l ss lps H0 full F al ci cp k c1 Zs Hr ws (listed.setIfInBounds i true) ((i, r) :: cacc) H') := by
  obtain ⟨b1, b2, b3, b4, b5, ⟨hm0, j, hwj, hcase⟩, b7⟩ := hz.lp m i hm him
  have hmk : m ≤ k := by
    rcases hcase with ⟨m', e, hc⟩ | hj
    · have := (h.ch m' j hc).1 (hw j hwj); omega
    · exact lpMem_one hz hm h.kle hj ((h.lp j ⟨m, hm, hj⟩).2 (hw j hwj))
  obtain ⟨r, hr1, hr2⟩ := h.due m i o s hmk him hol hs
  have hg : o.guard = none := by
    unfold guardless at b4
    simp only [show l.toArray[i]? = some o by simpa using hol] at b4
    exact Option.isNone_iff_eq_none.1 b4
  refine ⟨hg, ?_⟩
  rw [h.env (hok i b1) hol hs b5 hw]
  obtain ⟨q, rfl⟩ := hfam
  have hput : ∀ j, j ≠ i → (listed.setIfInBounds i true).getD j false = listed.getD j false := fun j hj => getD_set_ne false (Ne.symm hj)
  have hset : (listed.setIfInBounds i true).getD i false = true := getD_set_true' hlt
  have hil : lpMem lps ci.length i := ⟨m, hm, him⟩
  refine OpH.ofP (fun ρ I L hs' a w ha hm' => (hr2 q ρ I L hs' a w ha hm').mono ?_)
  rintro v w' ⟨J, X, q1, q2, q3, q4, q5, rfl, r', q6, rfl⟩
  refine ⟨J, [], q1, q2, q3, q4, q5, rfl, r', q6, fun r0 h0 => (by rw [hnone] at h0; cases h0), ⟨fun j hj hl q hq => getD_mono' i (h.w j hj (by rwa [hput j (fun e => b2 (e ▸ hj))] at hl) q hq), h.kle, h.kp, fun m2 j hj => ?_, h.al0, fun j hj hj2 => ?_, fun j hj => ?_, fun j hj => ?_, h.due, ?_, h.pl⟩⟩
  · rw [hput j (fun e => b2 (e ▸ List.mem_of_getElem? hj))]; exact h.ch m2 j hj
  · rw [lookR_cons, if_neg (fun e : i = j => hj2 (e ▸ hil))]; exact h.oth j hj hj2
  · have hne : i ≠ j := fun e => b3 (e ▸ hj)
    rw [lookR_cons, if_neg hne, hput j (Ne.symm hne)]; exact h.al1 j hj
  · by_cases e2 : i = j
    · subst e2
      rw [lookR_cons, if_pos rfl, if_pos hset, hr1]
      exact ⟨rfl, fun _ => ⟨m, hmk, him⟩⟩
    · rw [lookR_cons, if_neg e2, hput j (Ne.symm e2)]; exact h.lp j hj
  · rw [h.H]
    congr 2
    exact hA_congr fun p hp => ⟨(hput p.1 (fun e => b3 (e ▸ List.mem_map_of_mem hp))).symm, rfl⟩
theorem InvZ.chain (hz : OkZ l n ss (al.map Prod.fst) ci lps kA) (hok : ∀ i, i < n → opOkC l.toArray n ss i = true) {i : Nat} {o : Oper} {s : List (Nat × Nat)} (hcl : ∀ (m i : Nat) (o : Oper) (s : List (Nat × Nat)), m < cp.length → ci[m]? = some i → l[i]? = some o → ss[i]? = some s → cp[m]? = some (i, o, s)) (hkA : cp.length ≤ kA ∨ kA = ci.length) (hkc : k < cp.length) (hnd : ci.Nodup) (hin : i < n)
    (h : InvZ P C N σ bs HT l ss lps H0 full F al ci cp k c1 Zs Hr ws listed cacc H) (hi : i ∈ ci) (hol : l[i]? = some o) (hs : ss[i]? = some s) (hun : listed.getD i false = false) (hw : ∀ j, Region.waitsFor .any l.toArray i j = true → listed.getD j false = true) (hlt : i < listed.size) :
    o.guard = none ∧ OpH P C N o (envOf σ (cacc ++ full) s (opTmps o)) H (fun r H' => (∀ r0, lookR full i = some r0 → r = r0) ∧ ∃ c1' Zs' Hr', InvZ P C N σ bs HT l ss lps H0 full F al ci cp (k + 1) c1' Zs' Hr' ws (listed.setIfInBounds i true) ((i, r) :: cacc) H') := by
  have hg : o.guard = none := by
    have := hz.cg i hi
    unfold guardless at this
    simp only [show l.toArray[i]? = some o by simpa using hol] at this
    exact Option.isNone_iff_eq_none.1 this
  have hia : i ∉ al.map Prod.fst := fun hx => (hz.ksn i hx).2 hi
  have hilp : ¬ lpMem lps ci.length i := fun ⟨m, hm, hx⟩ => (hz.lp m i hm hx).2.1 hi
  have hput : ∀ j, j ≠ i → (listed.setIfInBounds i true).getD j false = listed.getD j false := fun j hj => getD_set_ne false (Ne.symm hj)
  obtain ⟨m, hm⟩ := List.mem_iff_getElem?.1 hi
  have hml : m < ci.length := (List.getElem?_eq_some_iff.1 hm).1
  have hmk : ¬ m < k := fun hx => by have := (h.ch m i hm).2 hx; rw [hun] at this; cases this
  have hkm : m ≤ k := by
    have hch := hz.chain
    unfold chainOk at hch
    cases m with
    | zero => omega
    | succ mj =>
      have h1 := List.all_eq_true.1 hch (mj + 1) (List.mem_range.2 hml)
      simp only [hm, Bool.and_eq_true] at h1
      cases hj : ci[mj]? with
      | none => simp [hj] at h1
      | some j =>
        simp only [hj, Bool.and_eq_true] at h1
        have := (h.ch mj j hj).1 (hw j h1.2.2)
        omega
  obtain rfl : m = k := by omega
  have hcc := hcl m i o s hkc hm hol hs
  have hdrop : cp.drop m = (i, o, s) :: cp.drop (m + 1) := by
    have hlt := (List.getElem?_eq_some_iff.1 hcc).1
    rw [List.drop_eq_getElem_cons hlt]
    congr 1
    rw [List.getElem?_eq_getElem hlt] at hcc
    exact Option.some.inj hcc
  have hpl := h.pl
  rw [hdrop, planZ] at hpl
  replace hpl := hpl.2 (hA (fun j => listed.getD j false) ws al)
  refine ⟨hg, ?_⟩
  rw [h.env (hok i hin) hol hs (hz.csrc m i (by omega) hm) hw]
  have hnext : ∀ r Zs' Hr', prom P N C σ HT full (clOf l ss (lps.getD (m + 1) [])) ((i, r) :: c1) (fun c => planZ P C N σ bs HT (fun k => clOf l ss (lps.getD k [])) H0 full al F (cp.drop (m + 1)) (m + 1) c Zs' Hr') →
      ∃ c1' Zs'' Hr'', InvZ P C N σ bs HT l ss lps H0 full F al ci cp (m + 1) c1' Zs'' Hr'' ws (listed.setIfInBounds i true) ((i, r) :: cacc) (Zs' ++ (hA (fun j => listed.getD j false) ws al ++ Hr')) := fun r Zs' Hr' hq => by
    obtain ⟨c', k1, k2, k3⟩ := prom_elim (hz.late (m + 1) (by omega)) hq
    have hLlp : ∀ j, j ∈ lps.getD (m + 1) [] → lpMem lps ci.length j := fun j hj => ⟨m + 1, by omega, hj⟩
    refine ⟨c', Zs', Hr', fun j hj hl q hwq => ?_, by omega, by omega, fun m' i' hm' => ?_, fun j hj => ?_, fun j hj hj2 => ?_, fun j hj => ?_, fun j hj => ?_, fun m2 i2 o2 s2 hm2 hi2 ho2 hs2 => ?_, ?_, k1⟩
    · by_cases e : j = i
      · subst e; exact getD_mono' j (hw q hwq)
      · exact getD_mono' i (h.w j hj (by rwa [hput j e] at hl) q hwq)
    · by_cases e : i' = i
      · subst e
        have h1 := (List.getElem?_eq_some_iff.1 hm')
        have h2 := (List.getElem?_eq_some_iff.1 hm)
        have : m' = m := (List.getElem_inj (h₀ := h1.1) (h₁ := h2.1) hnd).1 (by rw [h1.2, h2.2])
        subst this
        exact ⟨fun _ => by omega, fun _ => getD_set_true' hlt⟩
      · rw [hput i' e, h.ch m' i' hm']
        have : m' ≠ m := by rintro rfl; rw [hm] at hm'; exact e (Option.some.inj hm').symm
        omega
    · rw [k2 j (fun hx => (hz.lp (m + 1) j (by omega) hx).2.2.1 hj), lookR_cons, if_neg (fun e => hia (by rw [e]; exact hj))]; exact h.al0 j hj
    · rw [k2 j (fun hx => hj2 (hLlp j hx)), lookR_cons, lookR_cons, h.oth j hj hj2]
    · have hji : j ≠ i := fun e => hia (e ▸ hj)
      rw [lookR_cons, if_neg (Ne.symm hji), hput j hji]; exact h.al1 j hj
    · have hji : j ≠ i := fun e => hilp (e ▸ hj)
      rw [lookR_cons, if_neg (Ne.symm hji), hput j hji, (h.lp j hj).1]
      refine ⟨?_, fun hl => lpMem_mono ((h.lp j hj).2 hl) (Nat.le_succ _)⟩
      split
      · rename_i hl
        have hkk := (h.lp j hj).2 hl
        rw [k2 j (fun hx => by have := lpMem_one hz (by omega) (by omega) hx hkk; omega), lookR_cons, if_neg (Ne.symm hji)]
      · rfl
    · rcases Nat.lt_or_ge m m2 with hlt2 | hge2
      · obtain rfl : m2 = m + 1 := by omega
        exact k3 i2 o2 s2 hi2 ho2 hs2
      · obtain ⟨r2, d1, d2⟩ := h.due m2 i2 o2 s2 hge2 hi2 ho2 hs2
        obtain ⟨e1, e2, e3⟩ := (hz.lp m2 i2 (by omega) hi2).2.2.2.2.2.2 (m + 1) (by omega) (by omega)
        have hi2i : i2 ≠ i := fun e => (hz.lp m2 i2 (by omega) hi2).2.1 (e ▸ hi)
        refine ⟨r2, by rw [k2 i2 e3, lookR_cons, if_neg (Ne.symm hi2i)]; exact d1, fun Hp => ?_⟩
        have he : envOf σ (c' ++ full) s2 (opTmps o2) = envOf σ (c1 ++ full) s2 (opTmps o2) := envOf_congr' fun t _ j hj => by
          have hj1 := srcFree_get (e1 m i rfl hm) hs2 hj
          have hj2 := srcFree_get e2 hs2 hj
          have hji : j ≠ i := fun e => hj1 (by simp [e])
          rw [lookR_append, lookR_append, k2 j hj2, lookR_cons, if_neg (Ne.symm hji)]
        rw [he]; exact d2 Hp
    · congr 2
      exact hA_congr fun p hp => ⟨(hput p.1 (fun e => hia (e ▸ List.mem_map_of_mem hp))).symm, rfl⟩
  have hH := h.H
  subst hH
  cases hr : lookR full i with
  | none =>
    rw [hr] at hpl
    exact hpl.mono fun r H' ⟨Zs', Hr', e, hq⟩ => ⟨fun r0 h0 => (by cases h0), e ▸ hnext r Zs' Hr' hq⟩
  | some r0 =>
    rw [hr] at hpl
    exact hpl.mono fun r H' ⟨er, Zs', Hr', e, hq⟩ => ⟨fun q h0 => by cases h0; exact er, by subst er; exact e ▸ hnext _ Zs' Hr' hq⟩
theorem InvZ.toB {F2 : List (Nat × AV) → AHeap → AHeap → Prop} {cp2 : List (Nat × Oper × List (Nat × Nat))} (hz : OkZ l n ss (al.map Prod.fst) ci lps kA) (hnal : (al.map Prod.fst).Nodup)
    (hF : ∀ c Zs Hr, F c Zs Hr → planZ P C N σ bs HT (fun k => clOf l ss (lps.getD k [])) H0 full [] F2 (cp2.drop cp.length) cp.length c Zs Hr)
    (h : InvZ P C N σ bs HT l ss lps H0 full F al ci cp k c1 Zs Hr ws listed cacc H) (hk : k = cp.length) (hcp : cp.length ≤ cp2.length) (hall : ∀ j ∈ al.map Prod.fst, listed.getD j false = true) :
    InvZ P C N σ bs HT l ss lps H0 full F2 [] ci cp2 k (c1 ++ rA ws al) (Zs ++ (al.map fun p => p.2.blk (ws p.1))) Hr ws listed cacc H := by
  subst hk
  have hpl := h.pl
  rw [List.drop_length, planZ] at hpl
  refine ⟨h.w, h.kle, hcp, h.ch, fun j hj => (by cases hj), fun j _ hj2 => ?_, fun j hj => (by cases hj), fun j hj => ?_, fun m i o s hm hi ho hs => ?_, ?_, hF _ _ _ (hpl.2 ws)⟩
  · rw [lookR_append]
    by_cases hja : j ∈ al.map Prod.fst
    · rw [h.al0 j hja, h.al1 j hja, if_pos (hall j hja)]
    · rw [h.oth j hja hj2, lookR_rA_none hja]
      cases lookR c1 j <;> rfl
  · have hja : j ∉ al.map Prod.fst := fun hx => by
      obtain ⟨m, hm, hi⟩ := hj
      exact (hz.lp m j hm hi).2.2.1 hx
    rw [lookR_append, (h.lp j hj).1, lookR_rA_none hja]
    refine ⟨?_, (h.lp j hj).2⟩
    cases lookR c1 j <;> rfl
  · obtain ⟨r, d1, d2⟩ := h.due m i o s hm hi ho hs
    have hsf := (hz.lp m i (Nat.le_trans hm h.kle) hi).2.2.2.2.1
    refine ⟨r, by rw [lookR_append, d1], fun Hp => ?_⟩
    have he : envOf σ ((c1 ++ rA ws al) ++ full) s (opTmps o) = envOf σ (c1 ++ full) s (opTmps o) := envOf_congr' fun t _ j hj => by
      have hj2 := srcFree_get hsf hs hj
      rw [lookR_append, lookR_append, lookR_append, lookR_rA_none hj2]
      cases lookR c1 j <;> rfl
    rw [he]; exact d2 Hp
  · rw [h.H, hA_all fun p hp => hall p.1 (List.mem_map_of_mem hp), List.append_assoc]
    rfl
theorem InvZ.famI {bks qs : List (List Bool)} {ks : List Nat} {i : Nat} (hq : famOk l.toArray n ks ci bks qs = true) (h : InvZ P C N σ (fun k => bks.getD k []) HT l ss lps H0 full F al ci cp k c1 Zs Hr ws listed cacc H) (hin : i < n) (hna1 : i ∉ ks) (hnc : i ∉ ci) (hun : listed.getD i false = false) :
    ∃ q : AHeap × (Nat → Bool × Blk), H = q.1 ++ famT (qs.getD i []) H0 q.2 0 := by
  obtain ⟨f, hf⟩ := h.pl.fam
  have hk := h.kle
  have hle : leB (bks.getD k []) (qs.getD i []) = true := by
    have h1 := List.all_eq_true.1 hq i (List.mem_range.2 hin)
    simp only [Bool.or_eq_true, List.contains_eq_mem, decide_eq_true_eq] at h1
    rcases h1 with (h1 | h1) | h1
    · exact absurd h1 hna1
    · exact absurd h1 hnc
    · have h2 := List.all_eq_true.1 h1 k (List.mem_range.2 (by omega))
      simp only [Bool.or_eq_true] at h2
      rcases h2 with h2 | h2
      · obtain ⟨m, hm, hw⟩ := List.any_eq_true.1 h2
        have hmk := List.mem_range.1 hm
        cases hci : ci[m]? with
        | none => rw [hci] at hw; cases hw
        | some j =>
          rw [hci] at hw
          have h3 := h.w j (List.mem_of_getElem? hci) ((h.ch m j hci).2 hmk) i hw
          rw [hun] at h3; cases h3
      · exact h2
  obtain ⟨f', hf'⟩ := famT_le hle H0 f 0
  exact ⟨(Zs ++ hA (fun j => listed.getD j false) ws al, f'), by rw [h.H, hf, hf', List.append_assoc]⟩
theorem clOf_append (a b : List Nat) : clOf l ss (a ++ b) = clOf l ss a ++ clOf l ss b := by
  induction a with
  | nil => rfl
  | cons i a ih =>
    simp only [List.cons_append, clOf, ih]
    split <;> rfl
theorem clOf_length : ∀ (c : List Nat), (∀ i ∈ c, i < l.length ∧ i < ss.length) → (clOf l ss c).length = c.length
  | [], _ => rfl
  | i :: c, h => by
    obtain ⟨h1, h2⟩ := h i List.mem_cons_self
    simp only [clOf, List.getElem?_eq_getElem h1, List.getElem?_eq_getElem h2, List.length_cons]
    rw [clOf_length c (fun j hj => h j (List.mem_cons_of_mem _ hj))]
end
theorem wpA.drawZ {P : Program} {C : Ctx} {N : Nat} {Q : Exit → AEnv → AHeap → Prop} {σ : AEnv} {H : AHeap} {id : Nat} {l : List Oper} (bks : List (List Bool)) (qs : List (List Bool)) (lps : List (List Nat)) (al : List (Nat × AT)) (kA : Nat) (hm : P.follows .mixedOrders = true) (n : Nat) (ss : List (List (Nat × Nat))) (ci : List Nat)
    (hN : dstOk N l = true) (hB : phiOkC l.toArray n ss = true) (hss : Nat.ble n ss.length = true) (hC : chainOkZ l.toArray n ss (al.map Prod.fst) ci lps kA = true) (hkA : Nat.ble kA ci.length = true) (hnd : ci.Nodup) (hna : (al.map Prod.fst).Nodup)
    (hal : ∀ p ∈ al, ∀ o, l[p.1]? = some o → o.guard = none ∧ ∀ σ' H', OpH P C N o σ' H' (fun r H'' => ∃ b, r = p.2.res b ∧ H'' = p.2.blk b :: H'))
    (hq : famOk l.toArray n (al.map Prod.fst) ci bks qs = true) (hlen : Nat.ble lps.length (ci.length + 1) = true)
    (h : chainQ P N C σ (fun i (q : AHeap × (Nat → Bool × Blk)) => q.1 ++ famT (qs.getD i []) H q.2 0) (al.map Prod.fst ++ (lps.flatten ++ ci)) (fun accP => ((al.map Prod.fst ++ lps.flatten).all fun i => (lookR accP i).isNone) = true ∧
      planZ P C N σ (fun k => bks.getD k []) (fun i (q : AHeap × (Nat → Bool × Blk)) => q.1 ++ famT (qs.getD i []) H q.2 0) (fun k => clOf l ss (lps.getD k [])) H accP al
        (planZ P C N σ (fun k => bks.getD k []) (fun i (q : AHeap × (Nat → Bool × Blk)) => q.1 ++ famT (qs.getD i []) H q.2 0) (fun k => clOf l ss (lps.getD k [])) H accP []
          (fun cacc Zs Hr => wpB P C N l.toArray Q (l.drop n) (finA (cacc ++ accP) (l.take n) 0 σ) (Zs ++ Hr)) (clOf l ss (ci.drop kA)) kA) (clOf l ss (ci.take kA)) 0 [] [] H) (l.take n) ss 0 []) :
    wpA P C N (.region id l.toArray true) Q σ H := .padN (al := al) (by
  have hB0 := hB
  simp only [phiOkC, Bool.and_eq_true, Bool.or_eq_true] at hB
  obtain ⟨⟨⟨⟨⟨hle, hback⟩, hok⟩, hdst⟩, htail⟩, hseq⟩ := hB
  have hle' : n ≤ l.length := by simpa using Nat.le_of_ble_eq_true hle
  have hok' : ∀ i, i < n → opOkC l.toArray n ss i = true := fun i hi => List.all_eq_true.1 hok i (List.mem_range.2 hi)
  have hssl := Nat.le_of_ble_eq_true hss
  obtain ⟨full, ⟨hnone, hF⟩, _, hd⟩ := chainQ_elim (l.take n) ss 0 [] (fun j r hj => by simp [lookR] at hj) h
  have hz := okZ hC
  have hC' := hz.chain
  unfold chainOk at hC'
  have hcin : ∀ i ∈ ci, i < n := fun i hi => by
    obtain ⟨m, hm⟩ := List.mem_iff_getElem?.1 hi
    have h1 := List.all_eq_true.1 hC' m (List.mem_range.2 (List.getElem?_eq_some_iff.1 hm).1)
    simp only [hm, Bool.and_eq_true] at h1
    simpa [Nat.blt_eq] using h1.1
  have hlpf : ∀ i, i ∈ lps.flatten ↔ lpMem lps ci.length i := fun i => by
    have hll := Nat.le_of_ble_eq_true hlen
    constructor
    · intro hi
      obtain ⟨L, hL, hi⟩ := List.mem_flatten.1 hi
      obtain ⟨m, hm, rfl⟩ := List.getElem_of_mem hL
      exact ⟨m, by omega, by simpa [List.getD, hm] using hi⟩
    · rintro ⟨m, _, hi⟩
      by_cases hm2 : m < lps.length
      · simp [List.getD, hm2] at hi
        exact List.mem_flatten.2 ⟨_, List.getElem_mem hm2, hi⟩
      · simp [List.getD, hm2] at hi
  have hcl := clOf_get (l := l) (ss := ss) ci (fun i hi => ⟨_, _, List.getElem?_eq_getElem (Nat.lt_of_lt_of_le (hcin i hi) hle'), List.getElem?_eq_getElem (Nat.lt_of_lt_of_le (hcin i hi) hssl)⟩)
  have hp : ∀ i o s, i < n → i ∉ al.map Prod.fst ++ (lps.flatten ++ ci) → l[i]? = some o → ss[i]? = some s → ∃ r, lookR full i = some r ∧ dutyQ P N C σ (fun q : AHeap × (Nat → Bool × Blk) => q.1 ++ famT (qs.getD i []) H q.2 0) full o s r := fun i o s hi hic ho hsi => by
    obtain ⟨r, acc', h1, h2, h3⟩ := hd i o s (by rw [List.getElem?_take, if_pos hi]; exact ho) hsi (by simpa using hic)
    rw [Nat.zero_add] at h1 h2 h3
    refine ⟨r, h1, fun H' => ?_⟩
    have hoi := hok' i hi
    unfold opOkC at hoi
    have ho' : l.toArray[i]? = some o := by simpa using ho
    simp only [ho', hsi, Bool.and_eq_true] at hoi
    have hback' : ∀ j, Region.waitsFor .any l.toArray i j = true → j < i := fun j hw => by
      obtain ⟨e, he, hb, heq⟩ := waits_mem ho' hw
      have hil : i < l.toArray.size := (Array.getElem?_eq_some_iff.1 ho').1
      have h4 := List.all_eq_true.1 hback i (List.mem_range.2 hil)
      simp only [ho', Array.all_eq_true_iff_forall_mem] at h4
      have h5 := h4 e he
      rw [hb] at h5
      have : e.on < i := by simpa [Nat.blt_eq] using h5
      omega
    have henv : ∀ t ∈ opTmps o, ∀ j, srcOf s t = some j → lookR acc' j = lookR full j := fun t ht j hj => by
      have h6 := List.all_eq_true.1 hoi.1 t ht
      unfold readOk at h6
      simp only [hj, Bool.and_eq_true] at h6
      exact h3 j (hback' j h6.2)
    have hdd := h2 H'
    unfold dutyA at hdd ⊢
    rw [← envOf_congr' henv]
    cases hg : o.guard with
    | none => rw [hg] at hdd; exact hdd
    | some p =>
      obtain ⟨g, want⟩ := p
      rw [hg] at hdd
      have h6 := hoi.2
      rw [hg] at h6
      simp only [Bool.and_eq_true] at h6
      simp only at hdd ⊢
      rw [← h3 g (hback' g h6.1.2)]; exact hdd
  have hkA' := Nat.le_of_ble_eq_true hkA
  have hvalid : ∀ c : List Nat, (∀ i ∈ c, i ∈ ci) → ∀ i ∈ c, i < l.length ∧ i < ss.length := fun c hc i hi => ⟨Nat.lt_of_lt_of_le (hcin i (hc i hi)) hle', Nat.lt_of_lt_of_le (hcin i (hc i hi)) hssl⟩
  have hlA : (clOf l ss (ci.take kA)).length = kA := by
    rw [clOf_length _ (hvalid _ (fun i hi => List.mem_of_mem_take hi)), List.length_take]; omega
  have hlB : (clOf l ss ci).length = ci.length := clOf_length _ (hvalid _ (fun i hi => hi))
  have hdrop : (clOf l ss ci).drop (clOf l ss (ci.take kA)).length = clOf l ss (ci.drop kA) := by
    have := clOf_append (l := l) (ss := ss) (ci.take kA) (ci.drop kA)
    rw [List.take_append_drop] at this
    rw [this, List.drop_left]
  have hclA : ∀ (m i : Nat) (o : Oper) (s : List (Nat × Nat)), m < (clOf l ss (ci.take kA)).length → ci[m]? = some i → l[i]? = some o → ss[i]? = some s → (clOf l ss (ci.take kA))[m]? = some (i, o, s) := fun m i o s hm hi ho hs =>
    clOf_get (ci.take kA) (fun i hi => by
      obtain ⟨h1, h2⟩ := hvalid _ (fun i hi => List.mem_of_mem_take hi) i hi
      exact ⟨_, _, List.getElem?_eq_getElem h1, List.getElem?_eq_getElem h2⟩) m i o s (by rw [List.getElem?_take, if_pos (by omega)]; exact hi) ho hs
  have hzB := hz.zero
  let FB : List (Nat × AV) → AHeap → AHeap → Prop := fun cacc Zs Hr => wpB P C N l.toArray Q (l.drop n) (finA (cacc ++ full) (l.take n) 0 σ) (Zs ++ Hr)
  let FA : List (Nat × AV) → AHeap → AHeap → Prop := planZ P C N σ (fun k => bks.getD k []) (fun i (q : AHeap × (Nat → Bool × Blk)) => q.1 ++ famT (qs.getD i []) H q.2 0) (fun k => clOf l ss (lps.getD k [])) H full [] FB (clOf l ss (ci.drop kA)) kA
  have htoB : ∀ {k c1 Zs Hr ws listed cacc H'}, InvZ P C N σ (fun k => bks.getD k []) (fun i (q : AHeap × (Nat → Bool × Blk)) => q.1 ++ famT (qs.getD i []) H q.2 0) l ss lps H full FA al ci (clOf l ss (ci.take kA)) k c1 Zs Hr ws listed cacc H' → k = kA → (∀ j ∈ al.map Prod.fst, listed.getD j false = true) →
      InvZ P C N σ (fun k => bks.getD k []) (fun i (q : AHeap × (Nat → Bool × Blk)) => q.1 ++ famT (qs.getD i []) H q.2 0) l ss lps H full FB [] ci (clOf l ss ci) k (c1 ++ rA ws al) (Zs ++ (al.map fun p => p.2.blk (ws p.1))) Hr ws listed cacc H' := fun {k c1 Zs Hr ws listed cacc H'} hiv hk hall =>
    hiv.toB hz hna (fun c Zs Hr h => by rw [hdrop, hlA]; exact h) (by rw [hlA]; exact hk) (by rw [hlA, hlB]; exact hkA') hall
  refine wpA.drawG' (fun i (q : AHeap × (Nat → Bool × Blk)) => q.1 ++ famT (qs.getD i []) H q.2 0) hm n ss (al.map Prod.fst ++ (lps.flatten ++ ci)) hN hB0 full
    (fun listed cacc H' => (∃ k c1 Zs Hr ws, InvZ P C N σ (fun k => bks.getD k []) (fun i (q : AHeap × (Nat → Bool × Blk)) => q.1 ++ famT (qs.getD i []) H q.2 0) l ss lps H full FA al ci (clOf l ss (ci.take kA)) k c1 Zs Hr ws listed cacc H') ∨
      ((∀ j ∈ al.map Prod.fst, listed.getD j false = true) ∧ ∃ k c1 Zs Hr ws, InvZ P C N σ (fun k => bks.getD k []) (fun i (q : AHeap × (Nat → Bool × Blk)) => q.1 ++ famT (qs.getD i []) H q.2 0) l ss lps H full FB [] ci (clOf l ss ci) k c1 Zs Hr ws listed cacc H')) ?_ hp ?_ ?_ ?_ ?_
  · refine .inl ⟨0, [], [], H, fun _ => 0, fun j _ hl => (by rw [getD_replicate_false] at hl; cases hl), Nat.zero_le _, Nat.zero_le _, fun m i hi => ⟨fun hl => ?_, fun h => by omega⟩, fun j _ => rfl, fun j _ _ => rfl, fun j _ => ?_, fun j _ => ⟨?_, fun hl => ?_⟩, fun m i o s hm hi => ?_, ?_, hF⟩
    · rw [getD_replicate_false] at hl; cases hl
    · rw [if_neg (by rw [getD_replicate_false]; decide)]; rfl
    · rw [if_neg (by rw [getD_replicate_false]; decide)]; rfl
    · rw [getD_replicate_false] at hl; cases hl
    · obtain ⟨_, _, _, _, _, ⟨hm0, _⟩, _⟩ := hz.lp m i (by omega) hi
      omega
    · rw [List.nil_append]
      congr 1
      exact (List.map_congr_left fun p _ => by simp only [getD_replicate_false]; rfl)
  · rintro listed cacc H' i hiv hin hnc hun
    rw [List.mem_append, List.mem_append, not_or, not_or] at hnc
    rcases hiv with ⟨k, c1, Zs, Hr, ws, hiv⟩ | ⟨_, k, c1, Zs, Hr, ws, hiv⟩
    · exact hiv.famI hq hin hnc.1 hnc.2.2 hun
    · exact hiv.famI hq hin hnc.1 hnc.2.2 hun
  · rintro listed cacc H' i hiv hni
    rw [List.mem_append, List.mem_append, not_or, not_or] at hni
    rcases hiv with ⟨k, c1, Zs, Hr, ws, hiv⟩ | ⟨hall, k, c1, Zs, Hr, ws, hiv⟩
    · exact .inl ⟨k, c1, Zs, Hr, ws, hiv.pure hz hni.2.2 hni.1 (fun hx => hni.2.1 ((hlpf i).2 hx))⟩
    · exact .inr ⟨fun j hj => getD_mono' i (hall j hj), k, c1, Zs, Hr, ws, hiv.pure hzB hni.2.2 (by simp) (fun hx => hni.2.1 ((hlpf i).2 hx))⟩
  · rintro listed cacc H' i o s hiv hic hol hs hun hw hlt
    rcases List.mem_append.1 hic with hk | hc
    · obtain ⟨p, hp, rfl⟩ := List.mem_map.1 hk
      obtain ⟨hg, hop⟩ := hal p hp o hol
      rcases hiv with ⟨k, c1, Zs, Hr, ws, hiv⟩ | ⟨hall, _⟩
      · obtain ⟨F', h1, h2⟩ := hiv.alloc hz hna hp hun hlt
        refine ⟨hg, OpH.into h1 ((hop _ _).mono fun r H'' ⟨b, hr, hH⟩ => ⟨_, hH, fun r0 h0 => ?_, by rw [hr]; exact .inl ⟨k, c1, Zs, Hr, _, h2 b⟩⟩)⟩
        have h3 := List.all_eq_true.1 hnone p.1 (List.mem_append_left _ hk)
        rw [h0] at h3; cases h3
      · rw [hall p.1 hk] at hun; cases hun
    · rcases List.mem_append.1 hc with hlp | hc
      · obtain ⟨m, hm, him⟩ := (hlpf i).1 hlp
        have hlz := hz.lp m i hm him
        have h3 := List.all_eq_true.1 hnone i (List.mem_append_right _ hlp)
        rcases hiv with ⟨k, c1, Zs, Hr, ws, hiv⟩ | ⟨hall, k, c1, Zs, Hr, ws, hiv⟩
        · obtain ⟨hg, hop⟩ := hiv.late hz hok' hm him hol hs hw hlt (hiv.famI hq hlz.1 hlz.2.2.1 hlz.2.1 hun) (Option.isNone_iff_eq_none.1 h3)
          exact ⟨hg, hop.mono fun r H' ⟨q1, q2⟩ => ⟨q1, .inl ⟨k, c1, Zs, Hr, ws, q2⟩⟩⟩
        · obtain ⟨hg, hop⟩ := hiv.late hzB hok' hm him hol hs hw hlt (hiv.famI hq hlz.1 hlz.2.2.1 hlz.2.1 hun) (Option.isNone_iff_eq_none.1 h3)
          exact ⟨hg, hop.mono fun r H' ⟨q1, q2⟩ => ⟨q1, .inr ⟨fun j hj => getD_mono' i (hall j hj), k, c1, Zs, Hr, ws, q2⟩⟩⟩
      · obtain ⟨m, hm⟩ := List.mem_iff_getElem?.1 hc
        have hml : m < ci.length := (List.getElem?_eq_some_iff.1 hm).1
        have hstepB : (∀ j ∈ al.map Prod.fst, listed.getD j false = true) → ∀ {k c1 Zs Hr ws}, InvZ P C N σ (fun k => bks.getD k []) (fun i (q : AHeap × (Nat → Bool × Blk)) => q.1 ++ famT (qs.getD i []) H q.2 0) l ss lps H full FB [] ci (clOf l ss ci) k c1 Zs Hr ws listed cacc H' →
            o.guard = none ∧ OpH P C N o (envOf σ (cacc ++ full) s (opTmps o)) H' (fun r H' => (∀ r0, lookR full i = some r0 → r = r0) ∧ ((∃ k c1 Zs Hr ws, InvZ P C N σ (fun k => bks.getD k []) (fun i (q : AHeap × (Nat → Bool × Blk)) => q.1 ++ famT (qs.getD i []) H q.2 0) l ss lps H full FA al ci (clOf l ss (ci.take kA)) k c1 Zs Hr ws (listed.setIfInBounds i true) ((i, r) :: cacc) H') ∨
              ((∀ j ∈ al.map Prod.fst, (listed.setIfInBounds i true).getD j false = true) ∧ ∃ k c1 Zs Hr ws, InvZ P C N σ (fun k => bks.getD k []) (fun i (q : AHeap × (Nat → Bool × Blk)) => q.1 ++ famT (qs.getD i []) H q.2 0) l ss lps H full FB [] ci (clOf l ss ci) k c1 Zs Hr ws (listed.setIfInBounds i true) ((i, r) :: cacc) H'))) := fun hall {k c1 Zs Hr ws} hiv => by
          have hkc : k < (clOf l ss ci).length := by
            rw [hlB]
            rcases Nat.lt_or_ge k ci.length with h | h
            · exact h
            · have := (hiv.ch m i hm).2 (by omega)
              rw [hun] at this; cases this
          obtain ⟨hg, hop⟩ := hiv.chain hzB hok' (fun m i o s _ => hcl m i o s) (.inr rfl) hkc hnd (hcin i hc) hc hol hs hun hw hlt
          exact ⟨hg, hop.mono fun r H' ⟨q1, c1', Zs', Hr', q2⟩ => ⟨q1, .inr ⟨fun j hj => getD_mono' i (hall j hj), k + 1, c1', Zs', Hr', ws, q2⟩⟩⟩
        rcases hiv with ⟨k, c1, Zs, Hr, ws, hiv⟩ | ⟨hall, k, c1, Zs, Hr, ws, hiv⟩
        · rcases Nat.lt_or_ge k (clOf l ss (ci.take kA)).length with hkc | hkc
          · obtain ⟨hg, hop⟩ := hiv.chain hz hok' hclA (.inl (Nat.le_of_eq hlA)) hkc hnd (hcin i hc) hc hol hs hun hw hlt
            exact ⟨hg, hop.mono fun r H' ⟨q1, c1', Zs', Hr', q2⟩ => ⟨q1, .inl ⟨k + 1, c1', Zs', Hr', ws, q2⟩⟩⟩
          · have hke : k = kA := by have := hiv.kp; omega
            have hmk : kA ≤ m := by
              rcases Nat.lt_or_ge m k with h | h
              · have := (hiv.ch m i hm).2 h
                rw [hun] at this; cases this
              · omega
            have hall : ∀ j ∈ al.map Prod.fst, listed.getD j false = true := fun j hj => hw j (hz.calc_ m i hmk hm j hj)
            exact hstepB hall (htoB hiv hke hall)
        · exact hstepB hall hiv
  · rintro listed cacc H' hiv hall
    have hlist : ∀ j ∈ al.map Prod.fst, listed.getD j false = true := fun j hj => hall j (hz.ksn j hj).1
    have hend : ∀ {k c1 Zs Hr ws}, InvZ P C N σ (fun k => bks.getD k []) (fun i (q : AHeap × (Nat → Bool × Blk)) => q.1 ++ famT (qs.getD i []) H q.2 0) l ss lps H full FB [] ci (clOf l ss ci) k c1 Zs Hr ws listed cacc H' → wpB P C N l.toArray Q (l.drop n) (finA (cacc ++ full) (l.take n) 0 σ) H' := fun {k c1 Zs Hr ws} hiv => by
      have hk := hiv.kle
      have hk' : k = ci.length := by
        rcases Nat.lt_or_ge k ci.length with h | h
        · have := (hiv.ch k _ (List.getElem?_eq_getElem h)).1 (hall _ (hcin _ (List.getElem_mem h)))
          omega
        · omega
      have hpl := hiv.pl
      rw [hk', List.drop_eq_nil_of_le (Nat.le_of_eq hlB), planZ] at hpl
      have h2 : wpB P C N l.toArray Q (l.drop n) (finA ((c1 ++ rA ws []) ++ full) (l.take n) 0 σ) ((Zs ++ []) ++ Hr) := hpl.2 ws
      rw [hiv.H]
      rw [List.append_nil] at h2
      rw [finA_congr (b := (c1 ++ rA ws []) ++ full) fun j => ?_]
      · exact h2
      · rw [lookR_append, lookR_append, lookR_append]
        by_cases hjl : lpMem lps ci.length j
        · obtain ⟨m, hm, him⟩ := hjl
          rw [(hiv.lp j ⟨m, hm, him⟩).1, if_pos (hall j (hz.lp m j hm him).1)]
          cases lookR c1 j <;> rfl
        · rw [hiv.oth j (by simp) hjl]
          cases lookR c1 j <;> rfl
    rcases hiv with ⟨k, c1, Zs, Hr, ws, hiv⟩ | ⟨_, k, c1, Zs, Hr, ws, hiv⟩
    · have hk' : k = kA := by
        have h1 := hiv.kp
        rw [hlA] at h1
        rcases Nat.lt_or_ge k kA with h | h
        · have hkl : k < ci.length := by omega
          have := (hiv.ch k _ (List.getElem?_eq_getElem hkl)).1 (hall _ (hcin _ (List.getElem_mem hkl)))
          omega
        · omega
      exact hend (htoB hiv hk' hlist)
    · exact hend hiv)
end Go.Ab
set_option linter.unusedVariables false
namespace Go.Ab
open Go.Fl Go.RowKit
open Rep (rep)
section rules
variable {P : Program} {C : Ctx} {N : Nat} {σ : AEnv} {H : AHeap} {d : Option Nat} {ty : TypeId} {ps : String} {af : Array Edge} {g : Option (Nat × Bool)} {K : AV → Prop} {KH : AV → AHeap → Prop} {x y z : Operand} {T T2 E S D U : TypeId} {o : Oper}
end rules
section forget
variable {P : Program} {C : Ctx} {N : Nat} {σ : AEnv} {H : AHeap}
end forget
theorem FlatV.raw {u : Value} : FlatV (.raw u) := fun I J v h => h
section calls
variable {P : Program} {C : Ctx} {N : Nat} {σ : AEnv} {H : AHeap} {G : Gl} (hG : G.p C.I0) {f : FuncId} {d : Option Nat} {args : Array Operand} {tys : Array TypeId} {ty : TypeId} {ps : String} {af : Array Edge} {g : Option (Nat × Bool)} {ags : List AV}
include hG
end calls
end Go.Ab
set_option linter.unusedVariables false
namespace Go.Fl
open Go.RowKit
section
variable {P : Program} {C : Ctx} {N : Nat} {ρ : Env} {I : Im} {L : Lh} {d : Option Nat} {F : Operand} {args : Array Operand} {tys : Array TypeId} {ty : TypeId} {ps : String} {af : Array Edge} {g : Option (Nat × Bool)} {vs : List Value}
end
end Go.Fl
set_option linter.unusedVariables false
namespace Go.Fl
open Go.RowKit
section
variable {P : Program} {C : Ctx} {N : Nat} {Q : Exit → Env → Im → Lh → Prop} {ρ : Env} {I : Im} {L : Lh}
end
abbrev Chunk := List (Nat × Obj)
end Go.Fl
set_option linter.unusedVariables false
namespace Go.Ab
open Go.Fl Go.RowKit
open Rep (rep)
structure Iter where
  K : Nat → Im → Chunk → Prop
  Kx : Im → Chunk → Prop
  mono : ∀ k I J Z, Le I J → K k I Z → K k J Z
  monox : ∀ I J Z, Le I J → Kx I Z → Kx J Z
structure ItSt where
  it : Iter
  st : Option Nat
section
variable {P : Program} {C : Ctx} {N : Nat} {Q : Exit → AEnv → AHeap → Prop} {σ : AEnv} {H : AHeap}
end
theorem EvA.ownR {C : Ctx} {σ : AEnv} {H : AHeap} {α : Type} {r : Rep α} {t : Nat} {w : Value} {E : TypeId} {l : List α} {b : Bool} {F : Bool × Blk → AHeap} (ht : lookA σ t = some (.raw w)) (hH : Hole H (b, .own E w l) F) : EvA C σ H (.tmp t) (.v (SlRaw.mk w)) := fun ρ I L hs => by
  obtain ⟨u, h1, rfl⟩ := hs.env t _ ht
  obtain ⟨i, X, h2, h3, _⟩ := hH.get hs.heap
  obtain ⟨xs, h4, _⟩ := h3.1
  obtain ⟨a, c, rfl⟩ := h4.shape
  exact ⟨_, h1, _, ⟨rfl, rfl⟩, rfl⟩
end Go.Ab
set_option linter.unusedVariables false
namespace Go.Ab
open Go.Fl Go.RowKit
open Rep (rep)
universe u
class TyI (P : Program) (T : TypeId) (α : outParam Type) (r : outParam (Rep α)) (i : outParam (Inhabited α)) : Prop where h : TyIs P T α
class UnI (P : Program) (T : TypeId) (d : outParam TypeDesc) : Prop where h : P.underlying T = some d
class SlI (P : Program) (T : TypeId) (E : outParam TypeId) (α : outParam Type) (n : outParam Nat) (r : outParam (Rep α)) (i : outParam (Inhabited α)) : Prop where h : SlT P T E α n
class FdI (P : Program) (T : TypeId) (i : Nat) (β : outParam Type) (s : outParam (Rep β)) (γ : outParam Type) (q : outParam (Rep γ)) (m : outParam (Lens β γ)) (f : outParam (β → γ)) : Prop where
  h : ∃ sz, fieldOff P T i = some (m.off, sz + 1, Rep.agg γ) ∧ sz + 1 = Rep.size γ
  e : ∀ x, m.get x = f x
  b : Rep.agg β = true
class LnI {β γ : Type} {s : Rep β} {q : Rep γ} (m : Lens β γ) (f : outParam (β → γ)) (g : outParam (γ → β → β)) : Prop where
  e : ∀ x, m.get x = f x
  u : ∀ y x, m.set y x = g y x
class EqS {α : Type u} (x : Option α) (a : outParam α) : Prop where h : x = some a
class TrB (b : Bool) : Prop where h : b = true
class FaB (b : Bool) : Prop where h : b = false
class AsC (c : Bool) (a : AV) (b : outParam AV) : Prop where h : ∀ I u, c = true → RepV I a u → RepV I b u
class VaQ (a : AV) (α : outParam Type) (r : outParam (Rep α)) (x : outParam α) : Prop where h : ∀ I u, RepV I a u → RepV I (.v x) u
class EvQ (c : Bool) (σ : AEnv) (x : Operand) (a : outParam AV) : Prop where h : ∀ C H, c = true → EvA C σ H x a
class EvV (c : Bool) (σ : AEnv) (x : Operand) (α : outParam Type) (r : outParam (Rep α)) (v : outParam α) : Prop where h : ∀ C H, c = true → EvA C σ H x (.v v)
section
variable {P : Program} {σ : AEnv} {x y z : Operand} {c bo : Bool} {n : Nat}
end
class HoQ (H : AHeap) (w : Value) (B : outParam (Bool × Blk)) (F : outParam (Bool × Blk → AHeap)) : Prop where h : Hole H B F
class OpQ (G : Gl) (P : Program) (c : Bool) (o : Oper) (σ : AEnv) (H : AHeap) (r : outParam AV) : Prop where h : ∀ N C, G.p C.I0 → c = true → OpP P N C o σ H (fun a => a = r)
class LdQ (P : Program) (T : TypeId) (a : AV) (H : AHeap) (r : outParam AV) : Prop where h : ∀ N C σ x d ty ps af g, EvA C σ H x a → OpP P N C ⟨d, .load T x, ty, ps, af, g⟩ σ H (fun a => a = r)
class FaQ (P : Program) (T : TypeId) (i : Nat) (a : AV) (r : outParam AV) : Prop where h : ∀ N C σ H x d ty ps af g, EvA C σ H x a → OpP P N C ⟨d, .fieldAddr T x i, ty, ps, af, g⟩ σ H (fun a => a = r)
section
variable {G : Gl} {P : Program} {N : Nat} {c : Bool} {σ : AEnv} {H : AHeap} {d : Option Nat} {ty : TypeId} {ps : String} {af : Array Edge} {g : Option (Nat × Bool)} {x y z : Operand} {T T2 E : TypeId} {bo : Bool} {a b : AV}
section
variable {m n : Int} [hx : EvV c σ x Int inferInstance m] [hy : EvV c σ y Int inferInstance n]
end
section
variable {m n : UInt64} [hx : EvV c σ x UInt64 inferInstance m] [hy : EvV c σ y UInt64 inferInstance n]
end
section
variable {m n : UInt8} [hx : EvV c σ x UInt8 inferInstance m] [hy : EvV c σ y UInt8 inferInstance n]
end
section
variable {m n : Str} [hx : EvV c σ x Str inferInstance m] [hy : EvV c σ y Str inferInstance n]
end
end
class StQ (G : Gl) (P : Program) (ops : List Oper) (o : Oper) (σ : AEnv) (H : AHeap) (σ' : outParam AEnv) (H' : outParam AHeap) : Prop where
  h : ∀ N C Q rest, G.p C.I0 → wpB P C N ops.toArray Q rest σ' H' → wpB P C N ops.toArray Q (o :: rest) σ H
class SoQ (P : Program) (T : TypeId) (a b : AV) (H : AHeap) (H' : outParam AHeap) : Prop where
  h : ∀ N C σ x y ty ps af g KH, EvA C σ H x a → EvA C σ H y b → KH .any H' → OpH P C N ⟨none, .store T x y, ty, ps, af, g⟩ σ H KH
section
variable {G : Gl} {P : Program} {ops : List Oper} {Q : Exit → AEnv → AHeap → Prop} {rest : List Oper} {σ : AEnv} {H H' : AHeap} {ps : String} {af : Array Edge} {x y : Operand} {T ty : TypeId}
end
class AsQ (c : Bool) (σ : AEnv) (xs : List Operand) (ags : outParam (List AV)) : Prop where h : ∀ C H, c = true → EvAs C σ H xs ags
class PlQ (a : AV) (b : outParam AV) : Prop where h : ∀ I u, RepV I a u → RepV I b u
class ElQ (c : Bool) (σ : AEnv) (i : Nat) (ps : List (Nat × Operand)) (α : outParam Type) (r : outParam (Rep α)) (l : outParam (List α)) : Prop where h : ∀ C H, c = true → Elems C σ H i ps l
class SrQ (P : Program) (U : TypeId) (σ : AEnv) (H : AHeap) (y : Operand) (α : Type) (r : Rep α) (m : outParam (List α)) : Prop where
  h : ∀ C, SrcA P C σ H y m
  u : (∃ E2, P.underlying U = some (.slice E2)) ∨ P.underlying U = some .string
section
variable {G : Gl} {P : Program} {C : Ctx} {N : Nat} {c : Bool} {ops : List Oper} {Q : Exit → AEnv → AHeap → Prop} {rest : List Oper} {σ : AEnv} {H : AHeap} {d : Nat} {ps : String} {af : Array Edge} {x y : Operand} {T T2 E U ty : TypeId} {m n : Int}
end
inductive It where
  | a (c : Code) (Q : Exit → AEnv → AHeap → Prop)
  | b (ops : List Oper) (Q : Exit → AEnv → AHeap → Prop) (l : List Oper)
  | q (Q : Exit → AEnv → AHeap → Prop) (e : Exit)
@[reducible] def It.G (P : Program) (C : Ctx) (N : Nat) : It → AEnv → AHeap → Prop
  | .a c Q, σ, H => wpA P C N c Q σ H
  | .b ops Q l, σ, H => wpB P C N ops.toArray Q l σ H
  | .q Q e, σ, H => Q e σ H
class Rn (G : Gl) (P : Program) (C : Ctx) (N : Nat) (n : Nat) (i : It) (σ : AEnv) (H : AHeap) (A : outParam Prop) : Prop where h : G.p C.I0 → A → i.G P C N σ H
section
variable {G : Gl} {P : Program} {C : Ctx} {N n : Nat} {A : Prop} {ops : List Oper} {Q Q0 : Exit → AEnv → AHeap → Prop} {l : List Oper} {σ : AEnv} {H : AHeap} {c x y : Code} {e : Exit} {id i : Nat}
end
end Go.Ab
set_option maxRecDepth 1000000
namespace Go.Proofs.YtfkbejimghamkaaGreatDoor
open Go.Ab Go.Mac
theorem ty3 : TyIs Tryz.prog 3 Int := .of (by kernel_rfl) (by kernel_rfl) (by kernel_rfl) (by decide)
theorem ty4 : TyIs Tryz.prog 4 Bool := .of (by kernel_rfl) (by kernel_rfl) (by kernel_rfl) (by decide)
theorem ty5 : TyIs Tryz.prog 5 UInt8 := .of (by kernel_rfl) (by kernel_rfl) (by kernel_rfl) (by decide)
theorem ty9 : TyIs Tryz.prog 9 Str := .of (by kernel_rfl) (by kernel_rfl) (by kernel_rfl) (by decide)
theorem ty23 : TyIs Tryz.prog 23 (List Int) := .of (by kernel_rfl) (by kernel_rfl) (by kernel_rfl) (by decide)
theorem ty24 : TyIs Tryz.prog 24 (List G_api_Predicate) := .of (by kernel_rfl) (by kernel_rfl) (by kernel_rfl) (by decide)
theorem ty26 : TyIs Tryz.prog 26 G_api_Terms := .of (by kernel_rfl) (by kernel_rfl) (by kernel_rfl) (by decide)
theorem ty28 : TyIs Tryz.prog 28 G_api_Context := .of (by kernel_rfl) (by kernel_rfl) (by kernel_rfl) (by decide)
theorem ty30 : TyIs Tryz.prog 30 G_api_Step := .of (by kernel_rfl) (by kernel_rfl) (by kernel_rfl) (by decide)
theorem ty36 : TyIs Tryz.prog 36 (List Str) := .of (by kernel_rfl) (by kernel_rfl) (by kernel_rfl) (by decide)
theorem ty37 : TyIs Tryz.prog 37 UInt64 := .of (by kernel_rfl) (by kernel_rfl) (by kernel_rfl) (by decide)
theorem ty39 : TyIs Tryz.prog 39 G_api_Predicate := .of (by kernel_rfl) (by kernel_rfl) (by kernel_rfl) (by decide)
theorem ty53 : TyIs Tryz.prog 53 (Arr 32 UInt8) := .of (by kernel_rfl) (by kernel_rfl) (by kernel_rfl) (by decide)
theorem ty56 : TyIs Tryz.prog 56 G_api_Config := .of (by kernel_rfl) (by kernel_rfl) (by kernel_rfl) (by decide)
theorem ty75 : TyIs Tryz.prog 75 G_macaroonmade_Deck := .of (by kernel_rfl) (by kernel_rfl) (by kernel_rfl) (by decide)
theorem ty83 : TyIs Tryz.prog 83 FnV := .of (by kernel_rfl) (by kernel_rfl) (by kernel_rfl) (by decide)
theorem ty85 : TyIs Tryz.prog 85 G_script_form := .of (by kernel_rfl) (by kernel_rfl) (by kernel_rfl) (by decide)
theorem ty112 : TyIs Tryz.prog 112 G_api_Person := .of (by kernel_rfl) (by kernel_rfl) (by kernel_rfl) (by decide)
theorem st22 : SlT Tryz.prog 22 30 G_api_Step 128 := ⟨.of (by kernel_rfl), ty30⟩
theorem st24 : SlT Tryz.prog 24 39 G_api_Predicate 56 := ⟨.of (by kernel_rfl), ty39⟩
theorem st36 : SlT Tryz.prog 36 9 Str 16 := ⟨.of (by kernel_rfl), ty9⟩
theorem st54 : SlT Tryz.prog 54 112 G_api_Person 24 := ⟨.of (by kernel_rfl), ty112⟩
end Go.Proofs.YtfkbejimghamkaaGreatDoor
set_option maxRecDepth 1000000
set_option linter.unusedVariables false
namespace Go.Mac
open Go.Fl Go.Ab Go.Sha
abbrev Tag := Arr 32 UInt8
end Go.Mac
namespace Go.Proofs.YtfkbejimghamkaaGreatDoor
open Go.Fl Go.Ab Go.Sha Go.Mac
def bitsA : Arr 8 Int := ⟨[0, 64, 32, 7, 0, 0, 0, 0], rfl⟩
def wordsA : Arr 8 Str := ⟨[⟨[]⟩, ⟨[122, 111, 110, 101]⟩, ⟨[108, 105, 110, 101]⟩, ⟨[100, 97, 121, 115]⟩, ⟨[116, 105, 109, 101]⟩, ⟨[100, 97, 105, 108, 121]⟩, ⟨[104, 111, 108, 100, 101, 114]⟩, ⟨[114, 105, 100, 101, 115]⟩], rfl⟩
structure GlP (I : Im) : Prop where
  bits : Cells I 0 0 (bitsA.l.map i64)
  words : Cells I 1 0 (wordsA.l.map fun s => .string ⟨s.l.toArray⟩)
  maxLen : ∃ m, Cells I 3 0 [.int .i64 m]
  pow10 : ∃ e fr, I 2 = some (.cells (Lib.pow10Tab.map fun z => Value.int .u64 z).toArray e fr)
  errS : ∃ t p, Cells I 4 0 [.iface t p]
  errR : ∃ t p, Cells I 5 0 [.iface t p]
theorem GlP.mono {I J : Im} (hle : Le I J) (h : GlP I) : GlP J := by
  obtain ⟨h1, h2, ⟨m, h3⟩, ⟨e, fr, h4⟩, ⟨t, p, h5⟩, ⟨t2, p2, h6⟩⟩ := h
  exact ⟨h1.mono hle, h2.mono hle, ⟨m, h3.mono hle⟩, ⟨e, fr, hle _ _ h4⟩, ⟨t, p, h5.mono hle⟩, ⟨t2, p2, h6.mono hle⟩⟩
def gl : Gl := ⟨GlP, fun hle h => h.mono hle⟩
theorem gl_predicate_bits (I : Im) (h : gl.p I) : RepV I (.p bitsA) (ptr 0 0) := ⟨0, 0, _, rfl, (by repeat' (first | exact rfl | (refine ⟨[_], _, rfl, ⟨rfl, by decide, by decide⟩, ?_⟩))), h.bits⟩
theorem gl_predicate_words (I : Im) (h : gl.p I) : RepV I (.p wordsA) (ptr 1 0) := ⟨1, 0, _, rfl, (by repeat' (first | exact rfl | (refine ⟨[_], _, rfl, ⟨⟨_, rfl, rfl⟩, by decide⟩, ?_⟩))), h.words⟩
theorem gl_tab (I : Im) (w : World) (h : gl.p I) (hm : Mem I [] w) : Lib.TabIs Tryz.prog w "internal/strconv.uint64pow10" .u64 Lib.pow10Tab := by
  obtain ⟨e, fr, h4⟩ := h.pow10
  have h5 := hm.im _ _ h4
  have h6 : Tryz.prog.globalNamed "internal/strconv.uint64pow10" = some 2 := by kernel_rfl
  unfold Lib.TabIs World.var?
  rw [h6, Option.bind_some, h5]
end Go.Proofs.YtfkbejimghamkaaGreatDoor
set_option maxRecDepth 1000000
set_option linter.unusedVariables false
set_option linter.unusedSimpArgs false
namespace Go.Proofs.YtfkbejimghamkaaGreatDoor
open Go.Fl Go.Ab Go.Mac
theorem u8_or_zero (a b : UInt8) : (a ||| b = 0) ↔ (a = 0 ∧ b = 0) := by
  rw [← UInt8.toBitVec_inj, ← UInt8.toBitVec_inj, ← UInt8.toBitVec_inj]
  simp only [UInt8.toBitVec_or, UInt8.toBitVec_ofNat]
  exact BitVec.or_eq_zero_iff
theorem u8_xor_zero (a b : UInt8) : (a ^^^ b = 0) ↔ a = b := by
  rw [← UInt8.toBitVec_inj, ← UInt8.toBitVec_inj]
  simp only [UInt8.toBitVec_xor, UInt8.toBitVec_ofNat]
  exact BitVec.xor_eq_zero_iff
theorem Within_c (x n : Int) (h0 : 0 < n) (h1 : n ≤ 4611686018427387904) : FunA gl Tryz.prog 8 [.v x, .v n] (fun r => r = .v (x % n)) := by
  have h2 := Int.tmod_lt_of_pos x h0
  have h3 : -n < x.tmod n := Int.lt_tmod_of_pos x h0
  have h4 : (x.tmod n + n) % n = x % n := by
    rw [Int.add_emod_right, Int.tmod_def, Int.sub_mul_emod_self_left]
  refine FunA.intro Tryz.func8 rfl (by kernel_rfl) 12 rfl rfl _ rfl fun C hC hG => ?_
  refine .seq ?_
  refine .region rfl ?_
  refine .p (.assign (.i rfl) ?_)
  refine .nil ?_
  refine .seq ?_
  refine .region rfl ?_
  refine .p (.move (.t rfl) (.p (.move (.t rfl) (.p (.tmod (.t rfl) (.t rfl) (by omega) (.p (.move (.t rfl) (.p (.add (.t rfl) (.t rfl) (by first | omega | (simp; done) | (simp; omega) | (simp at *; omega)) (by first | omega | (simp; done) | (simp; omega) | (simp at *; omega)) (.p (.move (.t rfl) ?_)))))))))))
  refine .p (.rem (.t rfl) (.t rfl) (by first | omega | (simp; done) | (simp; omega) | (simp at *; omega)) (by first | omega | (simp; done) | (simp; omega) | (simp at *; omega)) (.p (.assign (.t rfl) ?_)))
  refine .nil ?_
  refine .ret ?_
  refine ⟨_, .r1 rfl (.tmp rfl), ?_⟩
  rw [h4]
def labelC (c : UInt8) : Bool := decide (97 ≤ c) && decide (c ≤ 122)
def isLabel (s : Str) : Bool := decide (1 ≤ s.l.length) && decide (s.l.length ≤ 16) && s.l.all labelC
theorem all_succ {α : Type} (p : α → Bool) (l : List α) (k : Nat) (h : k < l.length) : (l.take (k + 1)).all p = ((l.take k).all p && p l[k]) := by
  rw [List.take_succ_eq_append_getElem h, List.all_append]; simp
theorem all_at {α : Type} (p : α → Bool) (l : List α) (k : Nat) (h : k < l.length) (hf : p l[k] = false) : l.all p = false := by
  rw [List.all_eq_false]; exact ⟨l[k], List.getElem_mem h, by simp [hf]⟩
def key0 (key : List UInt8) : List UInt8 := key ++ List.replicate (64 - key.length) 0
def padded (key : List UInt8) (x : UInt8) : List UInt8 := (key0 key).map (· ^^^ x)
@[simp] theorem padded_len (key : List UInt8) (x : UInt8) : (padded key x).length = max 64 key.length := by simp [padded, key0]; omega
end Go.Proofs.YtfkbejimghamkaaGreatDoor
set_option maxRecDepth 1000000
set_option linter.unusedVariables false
set_option linter.unusedSimpArgs false
namespace Go.Proofs.YtfkbejimghamkaaGreatDoor
open Go.Fl Go.Ab Go.Mac Go.Sha
theorem ofInt_shr (n : Int) (h0 : 0 ≤ n) (h1 : n < 9223372036854775808) (k : Nat) (hk : k < 64) : UInt8.ofInt (n >>> k) = (UInt64.ofInt n >>> UInt64.ofNat k).toUInt8 := by
  obtain ⟨m, rfl⟩ := Int.eq_ofNat_of_zero_le h0
  rw [show ((m : Int) >>> k) = ((m >>> k : Nat) : Int) from rfl]
  apply UInt8.toNat_inj.1
  have e1 : (UInt64.ofInt (m : Int)).toNat = m % 2 ^ 64 := by
    simp [UInt64.ofInt]; omega
  have e2 : (UInt64.ofNat k).toNat = k := by simp; omega
  have e3 : (UInt8.ofInt ((m >>> k : Nat) : Int)).toNat = (m >>> k) % 256 := by
    generalize m >>> k = q
    simp [UInt8.ofInt]; omega
  rw [e3, UInt64.toNat_toUInt8, UInt64.toNat_shiftRight, e1, e2]
  rw [Nat.mod_eq_of_lt hk, Nat.mod_eq_of_lt (show m < 2 ^ 64 by omega)]
attribute [local simp] be64_length
abbrev dk (w : Value) : AV := .ln w (Lens.id (α := G_macaroonmade_Deck))
theorem deckNew_c (l : List Int) : FunH gl Tryz.prog 14 [.v l] [] (fun r Hs => ∃ b, r = dk (ptr b 0) ∧ Hs = [.ob (ptr b 0) (⟨l, 0⟩ : G_macaroonmade_Deck)]) := by
  refine FunH.intro Tryz.func14 rfl (by kernel_rfl) 6 rfl rfl _ rfl _ rfl fun C hC hG => ?_
  refine .seq ?_
  refine .region rfl ?_
  refine .p (.assign .raw ?_)
  refine .nil ?_
  refine .seq ?_
  refine .region rfl ?_
  refine .p (.move (.t rfl) (.p (.bS1 G_macaroonmade_Deck.l0 rfl ty75 fo75 (fun c0 => (⟨c0, 0⟩ : G_macaroonmade_Deck)) (fun _ => rfl) rfl rfl (.t rfl) (.h (.box (.t rfl) fun b5 => .p (.assign (.t rfl) ?_))))))
  refine .nil ?_
  refine .ret ?_
  refine ⟨_, .r1 rfl (.tmp rfl), ?_⟩
  exact ⟨b5, rfl, rfl⟩
def deckNext (d : G_macaroonmade_Deck) (n : Int) : Int × G_macaroonmade_Deck :=
  if h : d.At.toNat < d.L.length then (d.L[d.At.toNat] % n, ⟨d.L, d.At + 1⟩) else (0, d)
def DeckOk (d : G_macaroonmade_Deck) : Prop := 0 ≤ d.At
theorem deckNext_ok {d : G_macaroonmade_Deck} {n : Int} (h : DeckOk d) : DeckOk (deckNext d n).2 := by
  unfold deckNext; split
  · show 0 ≤ d.At + 1
    unfold DeckOk at h; omega
  · exact h
theorem deckNext_le {d : G_macaroonmade_Deck} {n : Int} (h : 0 < n) : 0 ≤ (deckNext d n).1 ∧ (deckNext d n).1 < n := by
  unfold deckNext; split
  · exact ⟨Int.emod_nonneg _ (by omega), Int.emod_lt_of_pos _ h⟩
  · exact ⟨Int.le_refl 0, h⟩
theorem Next_c (w : Value) (d : G_macaroonmade_Deck) (n : Int) (hd : DeckOk d) (h0 : 0 < n) (h1 : n ≤ 4611686018427387904) :
    FunH gl Tryz.prog 28 [dk w, .v n] [.ob w d] (fun r Hs => r = .v (deckNext d n).1 ∧ Hs = [.ob w (deckNext d n).2]) := by
  unfold DeckOk at hd
  refine FunH.intro Tryz.func28 rfl (by kernel_rfl) 35 rfl rfl _ rfl _ rfl fun C hC hG => ?_
  refine .seq ?_
  refine .region rfl ?_
  refine .p (.assign (.i rfl) ?_)
  refine .nil ?_
  refine .seq ?_
  refine .seq ?_
  refine .draw (by kernel_rfl) 10 [[], [(5, 0)], [(6, 1)], [(7, 2)], [], [(9, 4)], [(10, 5)], [(11, 6)], [(12, 7)], [(8, 3), (13, 8)]] rfl (by kernel_rfl) rfl ?_
  refine ⟨_, OpP.move (.t rfl) rfl, ?_⟩
  refine ⟨_, OpP.nilCheckL (.t rfl) rfl, ?_⟩
  refine ⟨_, OpP.fldW G_macaroonmade_Deck.l1 fd75_1 rfl (.t rfl) rfl, ?_⟩
  refine ⟨_, OpP.ldF (fun x => x.At) ty3 (.t rfl) .z (fun _ => rfl) rfl, ?_⟩
  refine ⟨_, OpP.move (.t rfl) rfl, ?_⟩
  refine ⟨_, OpP.nilCheckL (.t rfl) rfl, ?_⟩
  refine ⟨_, OpP.fldW G_macaroonmade_Deck.l0 fd75_0 rfl (.t rfl) rfl, ?_⟩
  refine ⟨_, OpP.ldF (fun x => x.L) ty23 (.t rfl) .z (fun _ => rfl) rfl, ?_⟩
  refine ⟨_, OpP.len Tryz.underlying23 (.t rfl) rfl, ?_⟩
  refine ⟨_, OpP.geq (.t rfl) (.t rfl) rfl, ?_⟩
  show wpB _ _ _ _ _ _ ((14, _) :: (13, _) :: (12, _) :: (11, _) :: (10, _) :: (9, _) :: (8, _) :: (7, _) :: (6, _) :: (5, _) :: _) _
  refine .nil ?_
  refine .condP (.t rfl) (fun hc14 => ?_) (fun hc14 => ?_)
  · refine .seq ?_
    refine .region rfl ?_
    refine .p (.assign (.i rfl) ?_)
    refine .nil ?_
    refine .ret ?_
    refine ⟨_, .r1 rfl (.tmp rfl), ?_⟩
    have e : deckNext d n = (0, d) := by unfold deckNext; rw [dif_neg (by omega)]
    rw [e]; exact ⟨rfl, rfl⟩
  · refine .skip ?_
    refine .seq ?_
    refine .lenLe 12 rfl fun hl => ?_
    refine .region rfl ?_
    refine .p (.move (.t rfl) (.p (.nilCheckL (.t rfl) (.p (.fldW G_macaroonmade_Deck.l1 fd75_1 rfl (.t rfl) (.p (.ldF (fun x => x.At) ty3 (.t rfl) .z (fun _ => rfl) (.p (.add (.t rfl) (.i rfl) (by first | omega | (simp; done) | (simp; omega) | (simp at *; omega)) (by first | omega | (simp; done) | (simp; omega) | (simp at *; omega)) (.p (.nilCheckL (.t rfl) ?_)))))))))))
    refine .p (.fldW G_macaroonmade_Deck.l1 fd75_1 rfl (.t rfl) (.n (.stF (fun y x => { x with At := y }) ty3 (.t rfl) (.t rfl) .z (fun _ _ => rfl) ?_)))
    refine .nil ?_
    refine .seq ?_
    refine .draw (by kernel_rfl) 14 [[], [(22, 0)], [(23, 1)], [(24, 2)], [], [(26, 4)], [(27, 5)], [(28, 6)], [(29, 7)], [(25, 3), (30, 8)], [(31, 9)], [], [(32, 10), (33, 11)], [(34, 12)]] rfl (by kernel_rfl) rfl ?_
    refine ⟨_, OpP.move (.t rfl) rfl, ?_⟩
    refine ⟨_, OpP.nilCheckL (.t rfl) rfl, ?_⟩
    refine ⟨_, OpP.fldW G_macaroonmade_Deck.l0 fd75_0 rfl (.t rfl) rfl, ?_⟩
    refine ⟨_, OpP.ldF (fun x => x.L) ty23 (.t rfl) .z (fun _ => rfl) rfl, ?_⟩
    refine ⟨_, OpP.move (.t rfl) rfl, ?_⟩
    refine ⟨_, OpP.nilCheckL (.t rfl) rfl, ?_⟩
    refine ⟨_, OpP.fldW G_macaroonmade_Deck.l1 fd75_1 rfl (.t rfl) rfl, ?_⟩
    refine ⟨_, OpP.ldF (fun x => x.At) ty3 (.t rfl) .z (fun _ => rfl) rfl, ?_⟩
    refine ⟨_, OpP.sub (.t rfl) (.i rfl) (by first | omega | (simp; done) | (simp; omega) | (simp at *; omega)) (by first | omega | (simp; done) | (simp; omega) | (simp at *; omega)) rfl, ?_⟩
    refine ⟨_, OpP.idx ty3 Tryz.underlying23 (.t rfl) (.t rfl) (by first | omega | (simp; done) | (simp; omega) | (simp at *; omega)) (by first | omega | (simp; done) | (simp; omega) | (simp at *; omega)) rfl, ?_⟩
    refine ⟨_, OpP.ldP ty3 (.t rfl) rfl, ?_⟩
    refine ⟨_, OpP.move (.t rfl) rfl, ?_⟩
    refine ⟨_, OpP.call1 hG (Within_c _ _ (by first | omega | (simp; done) | (simp; omega) | (simp at *; omega)) (by first | omega | (simp; done) | (simp; omega) | (simp at *; omega))) (.cons (.t rfl) (.cons (.t rfl) .nil)) rfl, ?_⟩
    refine ⟨_, OpP.assign (.t rfl) rfl, ?_⟩
    show wpB _ _ _ _ _ _ ((4, _) :: (34, _) :: (33, _) :: (32, _) :: (31, _) :: (30, _) :: (29, _) :: (28, _) :: (27, _) :: (26, _) :: (25, _) :: (24, _) :: (23, _) :: (22, _) :: _) _
    refine .nil ?_
    refine .ret ?_
    refine ⟨_, .r1 rfl (.tmp rfl), ?_⟩
    have e : deckNext d n = (d.L[d.At.toNat]'(by omega) % n, ⟨d.L, d.At + 1⟩) := by unfold deckNext; rw [dif_pos (by omega)]
    rw [e]; refine ⟨congrArg AV.v ?_, rfl⟩; simp only [Int.add_sub_cancel]
end Go.Proofs.YtfkbejimghamkaaGreatDoor
set_option maxRecDepth 1000000
set_option linter.unusedVariables false
set_option linter.unusedSimpArgs false
namespace Go.Proofs.YtfkbejimghamkaaGreatDoor
open Go.Fl Go.Ab Go.Mac Go.Sha
def idx {α : Type} (l : List α) (p : α → Bool) : Int := if l.findIdx p < l.length then (l.findIdx p : Int) else -1
theorem idx_at {α : Type} {l : List α} {p : α → Bool} {k : Nat} (h : k < l.length) (h1 : p l[k] = true) (h2 : ∀ j (hj : j < l.length), j < k → p l[j] = false) : idx l p = (k : Int) := by
  have e : l.findIdx p = k := (List.findIdx_eq h).2 ⟨h1, fun j hj => h2 j (by omega) hj⟩
  unfold idx; rw [e, if_pos h]
theorem idx_none {α : Type} {l : List α} {p : α → Bool} (h : ∀ j (hj : j < l.length), p l[j] = false) : idx l p = -1 := by
  have e : l.findIdx p = l.length := List.findIdx_eq_length.2 fun x hx => by
    obtain ⟨j, hj, rfl⟩ := List.getElem_of_mem hx
    exact h j hj
  unfold idx; rw [e, if_neg (by omega)]
end Go.Proofs.YtfkbejimghamkaaGreatDoor
set_option maxRecDepth 1000000
set_option linter.unusedVariables false
set_option linter.unusedSimpArgs false
namespace Go.Proofs.YtfkbejimghamkaaGreatDoor
open Go.Fl Go.Ab Go.Mac Go.Sha
end Go.Proofs.YtfkbejimghamkaaGreatDoor
set_option maxRecDepth 1000000
set_option linter.unusedVariables false
set_option linter.unusedSimpArgs false
namespace Go.Proofs.YtfkbejimghamkaaGreatDoor
open Go.Fl Go.Ab Go.Mac Go.Sha
end Go.Proofs.YtfkbejimghamkaaGreatDoor
set_option maxRecDepth 1000000
set_option linter.unusedVariables false
set_option linter.unusedSimpArgs false
namespace Go.Proofs.YtfkbejimghamkaaGreatDoor
open Go.Fl Go.Ab Go.Mac Go.Sha
end Go.Proofs.YtfkbejimghamkaaGreatDoor
set_option maxRecDepth 1000000
set_option linter.unusedVariables false
set_option linter.unusedSimpArgs false
namespace Go.Proofs.YtfkbejimghamkaaGreatDoor
open Go.Fl Go.Ab Go.Mac Go.Sha
theorem Tag_deck_c (w : Value) (d : G_macaroonmade_Deck) (hd : DeckOk d) : FunH gl Tryz.prog 26 [dk w] [.ob w d] (fun r Hs => ∃ t : Tag, ∃ d', DeckOk d' ∧ r = .v t ∧ Hs = [.ob w d']) := by
  refine FunH.introD Tryz.func26 rfl (by kernel_rfl) 16 rfl rfl _ rfl _ rfl fun C hC hG => ?_
  refine .seq ?_
  refine .region rfl ?_
  refine .h (.alloc ty53 fun b2 => ?_)
  refine .nil ?_
  refine .seq ?_
  refine .region rfl ?_
  refine .h (.alloc ty53 fun b3 => ?_)
  refine .nil ?_
  refine .seq ?_
  refine .seq ?_
  refine .region rfl ?_
  refine .p (.assign (.i rfl) ?_)
  refine .nil ?_
  refine .block ?_
  refine .loopR (α := Nat × Tag × G_macaroonmade_Deck) [(0, _), (2, _), (3, _)] (fun x R => (4, .v (x.1 : Int)) :: R) (fun x => [(true, .ob (ptr b3 0) x.2.1), (true, .ob (ptr b2 0) (default : Tag)), (false, .ob w x.2.2)]) (fun x => x.1 ≤ 4 ∧ DeckOk x.2.2) (fun x => 4 - x.1) ((0, default, d)) (.cons rfl (.cons rfl (.cons rfl (.nil _)))) ?_ (.cons rfl (.cons rfl (.cons rfl (.cons rfl (.nil _))))) (rfl) fun x hF => ?_
  · exact ⟨Nat.zero_le _, hd⟩
  obtain ⟨k, t, e⟩ := x
  obtain ⟨h1, h2⟩ := hF
  dsimp only at h1 h2 ⊢
  refine .seq ?_
  refine .seq ?_
  refine .region rfl ?_
  refine .p (.move (.t rfl) (.p (.lss (.t rfl) (.i rfl) ?_)))
  refine .nil ?_
  refine .condP (.t rfl) (fun hc6 => ?_) (fun hc6 => ?_)
  · refine .skip ?_
    refine .seq ?_
    refine .block ?_
    refine .region rfl ?_
    refine .p (.move (.t rfl) (.p (.mul (.t rfl) (.i rfl) (by first | omega | (simp; done) | (simp; omega) | (simp at *; omega)) (by first | omega | (simp; done) | (simp; omega) | (simp at *; omega)) (.p (.move (.t rfl) (.h (.callM hG (Next_c _ _ _ (by assumption) (by first | omega | (simp; done) | (simp; omega) | (simp at *; omega)) (by first | omega | (simp; done) | (simp; omega) | (simp at *; omega))) (.s (.s .z)) (.cons (.t rfl) (.cons (.i rfl) .nil)) (by rintro _ _ ⟨_, rfl⟩; exact ⟨_, rfl⟩) fun r12 B12 hr12 => ?_)))))))
    obtain ⟨rfl, hB⟩ := hr12
    cases hB
    refine .p (.conv8 Tryz.underlying3 Tryz.underlying5 (.t rfl) (.p (.idxW ar53 (.t rfl) (.t rfl) (by first | omega | (simp; done) | (simp; omega) | (simp at *; omega)) (by first | omega | (simp; done) | (simp; omega) | (simp at *; omega)) (.n (.stL ty5 (.t rfl) (.t rfl) .z ?_)))))
    refine .nil ?_
    refine .region rfl ?_
    refine .p (.move (.t rfl) (.p (.add (.t rfl) (.i rfl) (by first | omega | (simp; done) | (simp; omega) | (simp at *; omega)) (by first | omega | (simp; done) | (simp; omega) | (simp at *; omega)) (.p (.assign (.t rfl) ?_)))))
    refine .nil ?_
    refine ⟨(k + 1, _, _), .cons rfl (.cons rfl (.cons rfl (.cons rfl (.nil _)))), rfl, ?_, by dsimp only; omega⟩
    exact ⟨by dsimp only; omega, deckNext_ok h2⟩
  · refine .exit ?_
    refine .seq ?_
    refine .region rfl ?_
    refine .p (.ldW ty53 (.t rfl) .z (.n (.stW ty53 (.t rfl) (.t rfl) (.s .z) ?_)))
    refine .nil ?_
    refine .ret ?_
    refine ⟨_, .r1 rfl (.cell ty53 rfl (.s .z)), ?_⟩
    exact ⟨2, _, _, h2, rfl, rfl⟩
end Go.Proofs.YtfkbejimghamkaaGreatDoor
set_option maxRecDepth 1000000
set_option linter.unusedVariables false
set_option linter.unusedSimpArgs false
namespace Go.Proofs.YtfkbejimghamkaaGreatDoor
open Go.Fl Go.Ab Go.Mac Go.Sha
end Go.Proofs.YtfkbejimghamkaaGreatDoor
set_option maxRecDepth 1000000
set_option linter.unusedVariables false
set_option linter.unusedSimpArgs false
namespace Go.Proofs.YtfkbejimghamkaaGreatDoor
open Go.Fl Go.Ab Go.Mac Go.Sha
end Go.Proofs.YtfkbejimghamkaaGreatDoor
set_option maxRecDepth 1000000
set_option linter.unusedVariables false
set_option linter.unusedSimpArgs false
namespace Go.Proofs.YtfkbejimghamkaaGreatDoor
open Go.Fl Go.Ab Go.Mac Go.Sha
end Go.Proofs.YtfkbejimghamkaaGreatDoor
set_option maxRecDepth 1000000
set_option linter.unusedVariables false
set_option linter.unusedSimpArgs false
namespace Go.Proofs.YtfkbejimghamkaaGreatDoor
open Go.Fl Go.Ab Go.Mac Go.Sha
end Go.Proofs.YtfkbejimghamkaaGreatDoor
set_option linter.unusedVariables false
namespace Go.Ab
open Go.Fl Go.RowKit
open Rep (rep)
variable {P : Program} {N : Nat} {C : Ctx} {σ : AEnv} {H : AHeap} {K : AV → Prop} {d : Option Nat} {ty : TypeId} {ps : String} {af : Array Edge} {g : Option (Nat × Bool)} {x y : Operand} {T T2 : TypeId}
theorem lay_a {dd : TypeDesc} {b : Bool} (h : P.underlying T = some dd) (hb : isRow dd = b) : ∀ w, (isAgg T).run P w = .ok b w := fun w => hb ▸ run_isAgg h w
theorem lay_z {n : Nat} (h : (P.info? T).map (·.size) = some n) : ∀ w, (Go.sizeOf T).run P w = .ok n w := fun w => SizeIs.run h w
theorem lay_v {v : Value} (h : (P.info? T).bind (·.zero) = some v) : ∀ w, (zeroValue T).run P w = .ok v w := fun w => by
  cases hq : P.info? T with
  | none => simp [hq] at h
  | some i => simp [hq] at h; simp [zeroValue, typeInfo, hq, h]
section clo
variable {C : Ctx} {σ : AEnv} {H : AHeap} {G : Gl} {f : FuncId} {args : Array Operand} {tys : Array TypeId}
end clo
theorem OpP.shr64I {m : UInt64} {n : Int} (hx : EvA C σ H x (.v m)) (hy : EvA C σ H y (.v n)) (h0 : 0 ≤ n) (h1 : n < 64) (k : K (.v (m >>> UInt64.ofNat n.toNat))) :
    OpP P N C ⟨d, .binOp .shr T x y T2, ty, ps, af, g⟩ σ H K :=
  .vk k (fun ρ I L hs => OpV.shr64 n.toNat (hx.by64 hs) (hy.int hs).1 (by omega) (by omega) ⟨_, rfl, rfl⟩)
end Go.Ab
set_option linter.unusedVariables false
set_option linter.unusedSimpArgs false
namespace Go.Ab
open Go.Fl Go.RowKit Go.Shelf Go.Proofs
open Rep (rep)
theorem Chg.of_below {w w' : World} (h : Below w.heap.size w w') : Chg [] w w' := ⟨h.os, h.tape, h.output, h.size, fun k hk _ => h.block k hk⟩
end Go.Ab
set_option maxRecDepth 1000000
set_option linter.unusedVariables false
set_option linter.unusedSimpArgs false
namespace Go.Proofs.YtfkbejimghamkaaGreatDoor
open Go.Fl Go.Ab Go.Mac Go.Sha
end Go.Proofs.YtfkbejimghamkaaGreatDoor
set_option linter.unusedVariables false
namespace Go.Ab
open Go.Fl Go.RowKit
open Rep (rep)
def EqT (P : Program) (T : TypeId) (k : Nat) (α : Type) [Rep α] [DecidableEq α] : Prop :=
  ∀ (d : Nat) (I : Im) (x y : α) (cs ds : List Value) (w : World), rep I x cs → rep I y ds → (Op.equalIn (d + k) T (asV (Rep.agg α) cs) (asV (Rep.agg α) ds)).run P w = .ok (decide (x = y)) w
variable {P : Program} {T E : TypeId}
theorem EqT.i64 (hT : P.underlying T = some (.int .i64)) : EqT P T 1 Int := fun d I x y cs ds w hx hy => by
  obtain ⟨rfl, _⟩ := hx
  obtain ⟨rfl, _⟩ := hy
  exact equalIn_int w d hT
theorem EqT.u64 (hT : P.underlying T = some (.int .u64)) : EqT P T 1 UInt64 := fun d I x y cs ds w hx hy => by
  obtain rfl := hx
  obtain rfl := hy
  refine (equalIn_int w d hT).trans ?_
  congr 1
  rw [decide_eq_decide]
  exact ⟨fun h => UInt64.toNat_inj.1 (Int.ofNat_inj.1 h), fun h => by rw [h]⟩
theorem EqT.str (hT : P.underlying T = some .string) : EqT P T 1 Str := fun d I x y cs ds w hx hy => by
  obtain ⟨⟨a, rfl, ha⟩, _⟩ := hx
  obtain ⟨⟨b, rfl, hb⟩, _⟩ := hy
  refine (run_equalIn_string w d T a b hT).trans ?_
  rw [str_eq ha hb]
inductive EqF (P : Program) (k : Nat) : List Field → Nat → (β : Type) → (s : Rep β) → DecidableEq β → Prop
  | nil {off : Nat} : EqF P k [] off Unit inferInstance inferInstance
  | cons {f : Field} {fs : List Field} {off : Nat} {α β : Type} {r : Rep α} {s : Rep β} {d1 : DecidableEq α} {d2 : DecidableEq β} {dd : TypeDesc} (h1 : f.offset = off) (hn : (f.name ≠ "_") = true) (hT : P.underlying f.type = some dd) (ha : isRow dd = Rep.agg α) (hz : SizeIs P f.type (Rep.size α))
      (h2 : EqT P f.type k α) (t : EqF P k fs (off + Rep.size α) β s d2) : EqF P k (f :: fs) off (α × β) inferInstance inferInstance
theorem EqF.run {k : Nat} {fs : List Field} {off : Nat} {β : Type} {s : Rep β} {dec : DecidableEq β} (h : EqF P k fs off β s dec) : ∀ (d : Nat) (I : Im) (x y : β) (cs ds : List Value) (w : World), rep I x (cs.drop off) → rep I y (ds.drop off) →
    (Op.eqFields (d + k) cs.toArray ds.toArray fs).run P w = .ok (decide (x = y)) w := by
  induction h with
  | nil => intro d I x y cs ds w _ _; rfl
  | @cons f fs off α β r s d1 d2 dd h1 hn hT ha hz h2 t ih =>
    intro d I x y cs ds w hx hy
    obtain ⟨c1, r1, e1, q1, q2⟩ := hx
    obtain ⟨c2, r2, e2, q3, q4⟩ := hy
    have hp : ∀ (zs c rr : List Value) (a : α), zs.drop off = c ++ rr → rep I a c → (part f.type zs.toArray f.offset).run P w = .ok (asV (Rep.agg α) c) w := fun zs c rr a e hc => by
      have hl := Rep.len hc
      have hseg : segGet zs off (Rep.size α) = c := by rw [segGet, e, ← hl]; simp
      obtain ⟨g1, g2⟩ := part_run (P := P) (cs := zs) (off := f.offset) hT hz w
      rw [h1] at g1 g2 ⊢
      cases hag : Rep.agg α with
      | true =>
        rw [g1 (by rw [ha, hag]), hseg]; rfl
      | false =>
        have hone : c.length = 1 := by rw [hl]; exact Rep.one hag
        cases c with
        | nil => simp at hone
        | cons v c =>
          have : c = [] := by simpa using hone
          subst this
          refine g2 v (by rw [ha, hag]) ?_
          have : (zs.drop off)[0]? = some v := by rw [e]; rfl
          simpa using this
    have hdrop : ∀ (zs c rr : List Value) (a : α), zs.drop off = c ++ rr → rep I a c → zs.drop (off + Rep.size α) = rr := fun zs c rr a e hc => by
      rw [← List.drop_drop, e, ← Rep.len hc]; simp
    have hn' : f.name ≠ "_" := by simpa using hn
    simp only [Op.eqFields, if_pos hn', Sem.run_bind, hp cs c1 r1 x.1 e1 q1, hp ds c2 r2 y.1 e2 q3, Result.andThen_ok, h2 d I x.1 y.1 c1 c2 w q1 q3]
    by_cases e : x.1 = y.1
    · simp only [e, decide_true, Bool.not_true, Bool.false_eq_true, if_false]
      rw [ih d I x.2 y.2 cs ds w (by rw [hdrop cs c1 r1 x.1 e1 q1]; exact q2) (by rw [hdrop ds c2 r2 y.1 e2 q3]; exact q4)]
      congr 1
      rw [decide_eq_decide]
      exact ⟨fun h => Prod.ext e h, fun h => by rw [h]⟩
    · simp only [e, decide_false, Bool.not_false, if_true, Sem.run_pure]
      congr 1
      symm
      rw [decide_eq_false_iff_not]
      exact fun h => e (by rw [h])
theorem EqT.struct {S β : Type} [s : Rep β] [dS : DecidableEq S] {dec : DecidableEq β} {k : Nat} {fs : Array Field} (f : S → β) (hf : ∀ a b, f a = f b → a = b) (hT0 : P.underlying T = some (.struct fs)) (hp : P.stoodInHeld T = false) (h : EqF P k fs.toList 0 β s dec) : @EqT P T (k + 1) S (Rep.via f) dS := by
  letI : Rep S := Rep.via f
  intro d I x y cs ds w hx hy
  have hfs : P.fieldsOf T = fs := by unfold Program.fieldsOf; rw [hT0]
  have hT : P.underlying T = some (.struct (P.fieldsOf T)) := by rw [hfs]; exact hT0
  have hx' : rep I (f x) cs := hx
  have hy' : rep I (f y) ds := hy
  refine (run_equalIn_struct w (d + k) T cs.toArray ds.toArray hT hp).trans ?_
  rw [hfs, h.run d I (f x) (f y) cs ds w (by simpa using hx') (by simpa using hy')]
  congr 1
  rw [decide_eq_decide]
  exact ⟨hf _ _, fun h => by rw [h]⟩
variable {N : Nat} {C : Ctx} {σ : AEnv} {H : AHeap} {K : AV → Prop} {d : Option Nat} {ty : TypeId} {ps : String} {af : Array Edge} {g : Option (Nat × Bool)} {x y : Operand} {T2 : TypeId}
theorem OpP.eqlT {α : Type} {r : Rep α} {dd : DecidableEq α} {k0 : Nat} {a b : α} (he : EqT P T k0 α) (hk : Nat.ble k0 10000 = true) (hag : Rep.agg α = true) (hg : P.eqGuardType P.depth T = false) (hx : EvA C σ H x (.v a)) (hy : EvA C σ H y (.v b)) (k : K (.v (decide (a = b)))) :
    OpP P N C ⟨d, .binOp .eql T x y T2, ty, ps, af, g⟩ σ H K :=
  .vk k (fun ρ I L hst => .mk ⟨[.bool (decide (a = b))], rfl, rfl⟩ fun ac w ha hm => by
    obtain ⟨u, h1, cs, h2, rfl⟩ := hx ρ I L hst
    obtain ⟨v, h3, ds, h4, rfl⟩ := hy ρ I L hst
    have hke : 10000 - k0 + k0 = 10000 := by have := Nat.le_of_ble_eq_true hk; omega
    have he' := he (10000 - k0) I a b cs ds w h2 h4
    rw [hke] at he'
    rw [hag] at he' h1 h3
    have h5 := run_eql_struct (P := P) w T cs.toArray ds.toArray
    rw [show (Op.equalIn 10000 T (.agg cs.toArray) (.agg ds.toArray)).run P w = _ from he'] at h5
    have h1' : ev ρ x = some (.agg cs.toArray) := h1
    have h3' : ev ρ y = some (.agg ds.toArray) := h3
    simp only [execOp, ha.ev h1', ha.ev h3', Sem.run_bind, guard_agg w hg, h5, Result.andThen_ok, Sem.run_pure]
    rfl)
theorem OpP.neqT {α : Type} {r : Rep α} {dd : DecidableEq α} {k0 : Nat} {a b : α} (he : EqT P T k0 α) (hk : Nat.ble k0 10000 = true) (hag : Rep.agg α = true) (hg : P.eqGuardType P.depth T = false) (hx : EvA C σ H x (.v a)) (hy : EvA C σ H y (.v b)) (k : K (.v (decide (a ≠ b)))) :
    OpP P N C ⟨d, .binOp .neq T x y T2, ty, ps, af, g⟩ σ H K :=
  .vk k (fun ρ I L hst => .mk ⟨[.bool (decide (a ≠ b))], rfl, rfl⟩ fun ac w ha hm => by
    obtain ⟨u, h1, cs, h2, rfl⟩ := hx ρ I L hst
    obtain ⟨v, h3, ds, h4, rfl⟩ := hy ρ I L hst
    have hke : 10000 - k0 + k0 = 10000 := by have := Nat.le_of_ble_eq_true hk; omega
    have he' := he (10000 - k0) I a b cs ds w h2 h4
    rw [hke] at he'
    rw [hag] at he' h1 h3
    have h5 := run_neq_struct (P := P) w T cs.toArray ds.toArray
    rw [show (Op.equalIn 10000 T (.agg cs.toArray) (.agg ds.toArray)).run P w = _ from he'] at h5
    have h1' : ev ρ x = some (.agg cs.toArray) := h1
    have h3' : ev ρ y = some (.agg ds.toArray) := h3
    simp only [execOp, ha.ev h1', ha.ev h3', Sem.run_bind, guard_agg w hg, h5, Result.andThen_ok, Sem.run_pure]
    by_cases e : a = b <;> simp [e, asV, Rep.agg])
end Go.Ab
set_option maxRecDepth 1000000
set_option linter.unusedSimpArgs false
namespace Go.Proofs.YtfkbejimghamkaaGreatDoor
open Go.Ab Go.Mac
theorem eqT26 : EqT Tryz.prog 26 2 G_api_Terms := .struct G_api_Terms.f (fun a b h => by cases a; cases b; simpa [G_api_Terms.f] using h) Tryz.underlying26 (by kernel_rfl) (.cons rfl (by simp) Tryz.underlying3 rfl (.of (by kernel_rfl)) (.i64 Tryz.underlying3) (.cons rfl (by simp) Tryz.underlying3 rfl (.of (by kernel_rfl)) (.i64 Tryz.underlying3) .nil))
theorem eqT28 : EqT Tryz.prog 28 2 G_api_Context := .struct G_api_Context.f (fun a b h => by cases a; cases b; simpa [G_api_Context.f] using h) Tryz.underlying28 (by kernel_rfl) (.cons rfl (by simp) Tryz.underlying3 rfl (.of (by kernel_rfl)) (.i64 Tryz.underlying3) (.cons rfl (by simp) Tryz.underlying3 rfl (.of (by kernel_rfl)) (.i64 Tryz.underlying3) (.cons rfl (by simp) Tryz.underlying3 rfl (.of (by kernel_rfl)) (.i64 Tryz.underlying3) (.cons rfl (by simp) Tryz.underlying9 rfl (.of (by kernel_rfl)) (.str Tryz.underlying9) .nil))))
theorem eqT39 : EqT Tryz.prog 39 2 G_api_Predicate := .struct G_api_Predicate.f (fun a b h => by cases a; cases b; simpa [G_api_Predicate.f] using h) Tryz.underlying39 (by kernel_rfl) (.cons rfl (by simp) Tryz.underlying3 rfl (.of (by kernel_rfl)) (.i64 Tryz.underlying3) (.cons rfl (by simp) Tryz.underlying37 rfl (.of (by kernel_rfl)) (.u64 Tryz.underlying37) (.cons rfl (by simp) Tryz.underlying3 rfl (.of (by kernel_rfl)) (.i64 Tryz.underlying3) (.cons rfl (by simp) Tryz.underlying3 rfl (.of (by kernel_rfl)) (.i64 Tryz.underlying3) (.cons rfl (by simp) Tryz.underlying9 rfl (.of (by kernel_rfl)) (.str Tryz.underlying9) (.cons rfl (by simp) Tryz.underlying3 rfl (.of (by kernel_rfl)) (.i64 Tryz.underlying3) .nil))))))
end Go.Proofs.YtfkbejimghamkaaGreatDoor
set_option linter.unusedVariables false
namespace Go.Ab
open Go.Fl Go.RowKit
open Rep (rep)
structure OF (α : Type) where
  E : TypeId
  l : List α
  own : Bool
section rules
variable {P : Program} {C : Ctx} {N : Nat} {σ : AEnv} {H : AHeap} {Q : Exit → AEnv → AHeap → Prop}
end rules
theorem EvA.cloF1 {P : Program} {C : Ctx} {σ : AEnv} {H : AHeap} {G : Gl} {f : FuncId} (hG : G.p C.I0) {α β : Type} [Rep α] [Rep β] {g1 : α → β} (h : ∀ x : α, FunA G P f [.v x] (fun r => r = .v (g1 x))) : EvA C σ H (.func f) (.clo1 P g1) :=
  show EvA C σ H (.func f) (.clo P (fun x : α => [.v x]) (fun x => .v (g1 x))) from EvA.cloF hG h
section del
variable {P : Program} {C : Ctx} {N : Nat} {σ : AEnv} {H H' : AHeap} {Q : Exit → AEnv → AHeap → Prop}
end del
end Go.Ab
namespace Go.Fl
section scope
variable {P : Program} {b : Frame} {a : Act} {k : List Item} {cs : List Frame} {w : World}
end scope
end Go.Fl
namespace Go.Ab
open Go.Fl Go.RowKit
section drawN
variable {P : Program} {C : Ctx} {N : Nat} {Q : Exit → AEnv → AHeap → Prop} {σ : AEnv} {H : AHeap}
end drawN
theorem OpP.shl64 {P : Program} {N : Nat} {C : Ctx} {σ : AEnv} {H : AHeap} {K : AV → Prop} {d : Option Nat} {ty : TypeId} {ps : String} {af : Array Edge} {g : Option (Nat × Bool)} {x y : Operand} {T T2 : TypeId} {m c : UInt64} (hx : EvA C σ H x (.v m)) (hy : EvA C σ H y (.v c)) (h0 : 0 ≤ c.toNat) (h1 : c.toNat < 64) (k : K (.v (m <<< c))) : OpP P N C ⟨d, .binOp .shl T x y T2, ty, ps, af, g⟩ σ H K :=
  .vk k (fun ρ I L hs => OpV.shl64 c.toNat (hx.by64 hs) (hy.by64 hs) rfl h1 ⟨[Fl.u64 (m <<< c)], rfl, by rw [UInt64.ofNat_toNat]; rfl⟩)
theorem OpP.not64 {P : Program} {N : Nat} {C : Ctx} {σ : AEnv} {H : AHeap} {K : AV → Prop} {d : Option Nat} {ty : TypeId} {ps : String} {af : Array Edge} {g : Option (Nat × Bool)} {x : Operand} {T : TypeId} {m : UInt64} (hx : EvA C σ H x (.v m)) (k : K (.v (~~~m))) : OpP P N C ⟨d, .unOp .xor T x, ty, ps, af, g⟩ σ H K :=
  .vk k (fun ρ I L hs => OpV.not64 (hx.by64 hs) ⟨[Fl.u64 (~~~m)], rfl, rfl⟩)
end Go.Ab
