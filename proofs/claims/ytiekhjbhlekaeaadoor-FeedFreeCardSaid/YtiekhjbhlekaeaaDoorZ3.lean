/- Plain Lean over any program, and walks of this seat's functions: contracts, each proved once (part 3). -/
import Derived.Test.YtiekhjbhlekaeaaDoorZ2
import Derived.Shelf.Bytes.SlJoin
set_option linter.unusedVariables false
namespace Go.Ab
open Go.Fl Go.RowKit
open Rep (rep)
def leB : List Bool → List Bool → Bool
  | [], _ => true
  | a :: ags, [] => !a && leB ags []
  | a :: ags, b :: bs => (!a || b) && leB ags bs
theorem famT_nil (H : AHeap) (f : Nat → Bool × Blk) (k : Nat) : famT [] H f k = H := by simp [famT]
theorem famT_le : ∀ {a b : List Bool}, leB a b = true → ∀ (H : AHeap) (f : Nat → Bool × Blk) (k : Nat), ∃ f', famT a H f k = famT b H f' k
  | a, b, h, [], f, k => ⟨f, by cases a <;> cases b <;> simp [famT]⟩
  | [], b, h, B :: H, f, k => ⟨fun j => (B :: H).getD (j - k) hole0, by
      rw [famT_nil]
      have key : ∀ (b : List Bool) (G : AHeap) (j : Nat), (∀ m, m < G.length → (B :: H).getD (j + m - k) hole0 = G.getD m hole0) → G = famT b G (fun j => (B :: H).getD (j - k) hole0) j := by
        intro b
        induction b with
        | nil => intro G j _; rw [famT_nil]
        | cons x b ih =>
          intro G j hG
          cases G with
          | nil => simp [famT]
          | cons A G =>
            have h0 := hG 0 (by simp)
            simp only [famT]
            have h1 : (bif x then (B :: H).getD (j - k) hole0 else A) = A := by
              cases x
              · rfl
              · simpa using h0
            rw [h1, ← ih G (j + 1) (fun m hm => by
              have := hG (m + 1) (by simp; omega)
              rw [show j + 1 + m - k = j + (m + 1) - k by omega, this]; simp)]
      exact key b (B :: H) k (fun m hm => by rw [show k + m - k = m by omega])⟩
  | x :: a, [], h, B :: H, f, k => by
    simp only [leB, Bool.and_eq_true, Bool.not_eq_true'] at h
    obtain ⟨f', hf'⟩ := famT_le (b := []) h.2 H f (k + 1)
    rw [famT_nil] at hf'
    exact ⟨f, by rw [famT_nil]; simp only [famT, h.1, cond_false, hf']⟩
  | x :: a, y :: b, h, B :: H, f, k => by
    simp only [leB, Bool.and_eq_true] at h
    obtain ⟨f', hf'⟩ := famT_le h.2 H f (k + 1)
    have hcongr : ∀ (b : List Bool) (H : AHeap) (f g : Nat → Bool × Blk) (k : Nat), (∀ j, k ≤ j → f j = g j) → famT b H f k = famT b H g k := by
      intro b
      induction b with
      | nil => intro H f g k _; rw [famT_nil, famT_nil]
      | cons x b ih =>
        intro H f g k hfg
        cases H with
        | nil => simp [famT]
        | cons A H => simp only [famT]; rw [hfg k (Nat.le_refl _), ih H f g (k + 1) (fun j hj => hfg j (by omega))]
    refine ⟨fun j => if j = k then (bif x then f k else B) else f' j, ?_⟩
    simp only [famT, if_true]
    rw [hf', hcongr b H f' (fun j => if j = k then (bif x then f k else B) else f' j) (k + 1) (fun j hj => by rw [if_neg (by omega)])]
    cases x with
    | false => cases y <;> rfl
    | true =>
      have : y = true := by simpa using h.1
      subst this; rfl
def chainQ (P : Program) (N : Nat) (C : Ctx) (σ0 : AEnv) {ι : Type 1} (HT : Nat → ι → AHeap) (ci : List Nat) (F : List (Nat × AV) → Prop) : List Oper → List (List (Nat × Nat)) → Nat → List (Nat × AV) → Prop
  | [], _, _, acc => F acc
  | o :: os, s :: ss, k, acc => bif ci.contains k then chainQ P N C σ0 HT ci F os ss (k + 1) acc ∨ ∃ r, chainQ P N C σ0 HT ci F os ss (k + 1) ((k, r) :: acc) else ∃ r, dutyQ P N C σ0 (HT k) acc o s r ∧ chainQ P N C σ0 HT ci F os ss (k + 1) ((k, r) :: acc)
  | _, [], _, _ => False
theorem chainQ_elim {P : Program} {N : Nat} {C : Ctx} {σ0 : AEnv} {ι : Type 1} {HT : Nat → ι → AHeap} {ci : List Nat} {F : List (Nat × AV) → Prop} : ∀ (os : List Oper) (ss : List (List (Nat × Nat))) (k : Nat) (acc : List (Nat × AV)), (∀ j r, lookR acc j = some r → j < k) → chainQ P N C σ0 HT ci F os ss k acc →
    ∃ full, F full ∧ (∀ j, j < k → lookR full j = lookR acc j) ∧
      ∀ i o s, os[i]? = some o → ss[i]? = some s → k + i ∉ ci → ∃ r acc', lookR full (k + i) = some r ∧ dutyQ P N C σ0 (HT (k + i)) acc' o s r ∧ ∀ j, j < k + i → lookR acc' j = lookR full j
  | [], ss, k, acc, hacc, h => ⟨acc, by cases ss <;> exact h, fun _ _ => rfl, fun i o s ho => by simp at ho⟩
  | o :: os, [], k, acc, _, h => h.elim
  | o :: os, s :: ss, k, acc, hacc, h => by
    simp only [chainQ] at h
    have hacc2 : ∀ r, ∀ j q, lookR ((k, r) :: acc) j = some q → j < k + 1 := fun r j q hj => by
      rw [lookR_cons] at hj
      by_cases e : k = j
      · omega
      · rw [if_neg e] at hj; have := hacc j q hj; omega
    cases hc : ci.contains k with
    | true =>
      rw [hc] at h
      simp only [cond_true] at h
      have fin : ∀ acc2, (∀ j, j < k → lookR acc2 j = lookR acc j) → (∀ j r, lookR acc2 j = some r → j < k + 1) → chainQ P N C σ0 HT ci F os ss (k + 1) acc2 → ∃ full, F full ∧ (∀ j, j < k → lookR full j = lookR acc j) ∧
          ∀ i o' s', (o :: os)[i]? = some o' → (s :: ss)[i]? = some s' → k + i ∉ ci → ∃ r acc', lookR full (k + i) = some r ∧ dutyQ P N C σ0 (HT (k + i)) acc' o' s' r ∧ ∀ j, j < k + i → lookR acc' j = lookR full j := fun acc2 ha hb h => by
        obtain ⟨full, hF, h1, h3⟩ := chainQ_elim os ss (k + 1) acc2 hb h
        refine ⟨full, hF, fun j hj => (h1 j (by omega)).trans (ha j hj), fun i o' s' ho hs hni => ?_⟩
        cases i with
        | zero => exact absurd (by simpa using hc) hni
        | succ i =>
          have e : k + (i + 1) = k + 1 + i := by omega
          rw [e]
          exact h3 i o' s' (by simpa using ho) (by simpa using hs) (by rw [← e]; exact hni)
      rcases h with h | ⟨r, h⟩
      · exact fin acc (fun _ _ => rfl) (fun j r hj => Nat.lt_succ_of_lt (hacc j r hj)) h
      · exact fin ((k, r) :: acc) (fun j hj => by rw [lookR_cons, if_neg (by omega)]) (hacc2 r) h
    | false =>
      rw [hc] at h
      simp only [cond_false] at h
      obtain ⟨r, hd, h⟩ := h
      obtain ⟨full, hF, h1, h3⟩ := chainQ_elim os ss (k + 1) ((k, r) :: acc) (hacc2 r) h
      refine ⟨full, hF, fun j hj => by rw [h1 j (by omega), lookR_cons, if_neg (by omega)], fun i o' s' ho hs hni => ?_⟩
      cases i with
      | zero =>
        simp only [List.getElem?_cons_zero, Option.some.injEq] at ho hs
        subst ho; subst hs
        refine ⟨r, acc, by rw [Nat.add_zero, h1 k (by omega), lookR_cons, if_pos rfl], hd, fun j hj => ?_⟩
        rw [Nat.add_zero] at hj
        rw [h1 j (by omega), lookR_cons, if_neg (by omega)]
      | succ i =>
        have e : k + (i + 1) = k + 1 + i := by omega
        rw [e]
        exact h3 i o' s' (by simpa using ho) (by simpa using hs) (by rw [← e]; exact hni)
def famOk (ops : Array Oper) (n : Nat) (ks ci : List Nat) (bks qs : List (List Bool)) : Bool :=
  (List.range n).all fun i => ks.contains i || ci.contains i || (List.range (ci.length + 1)).all fun k => (List.range k).any (fun m => match ci[m]? with | some j => Region.waitsFor .any ops j i | none => false) || leB (bks.getD k []) (qs.getD i [])
theorem envOf_congr' {σ0 : AEnv} {a b : List (Nat × AV)} {s : List (Nat × Nat)} : ∀ {ts : List Nat}, (∀ t ∈ ts, ∀ j, srcOf s t = some j → lookR a j = lookR b j) → envOf σ0 a s ts = envOf σ0 b s ts
  | [], _ => rfl
  | t :: ts, h => by
    simp only [envOf]
    have h1 := envOf_congr' (σ0 := σ0) (fun u hu => h u (List.mem_cons_of_mem _ hu))
    cases hs : srcOf s t with
    | none => simp only [h1]
    | some j => simp only [h t List.mem_cons_self j hs, h1]
def lateQ (P : Program) (N : Nat) (C : Ctx) (σ0 : AEnv) {ι : Type 1} (HT : ι → AHeap) (acc : List (Nat × AV)) (o : Oper) (s : List (Nat × Nat)) (r : AV) : Prop := ∀ Hp, OpP P N C o (envOf σ0 acc s (opTmps o)) (HT Hp) (fun r' => r' = r)
def prom (P : Program) (N : Nat) (C : Ctx) (σ0 : AEnv) {ι : Type 1} (HT : Nat → ι → AHeap) (accP : List (Nat × AV)) : List (Nat × Oper × List (Nat × Nat)) → List (Nat × AV) → (List (Nat × AV) → Prop) → Prop
  | [], c, K => K c
  | (i, o, s) :: rest, c, K => ∃ r, lateQ P N C σ0 (HT i) (c ++ accP) o s r ∧ prom P N C σ0 HT accP rest ((i, r) :: c) K
def srcFree (ss : List (List (Nat × Nat))) (i : Nat) (L : List Nat) : Bool := match ss[i]? with | some s => s.all (fun p => !(L.contains p.2)) | none => true
theorem srcFree_get {ss : List (List (Nat × Nat))} {i : Nat} {L : List Nat} {s : List (Nat × Nat)} (h : srcFree ss i L = true) (hs : ss[i]? = some s) {t j : Nat} (hj : srcOf s t = some j) : j ∉ L := by
  unfold srcFree at h
  rw [hs] at h
  have h2 := List.all_eq_true.1 h (t, j) (srcOf_mem hj)
  simpa using h2
def lateL (ss : List (List (Nat × Nat))) : List Nat → Bool
  | [] => true
  | i :: r => srcFree ss i (i :: r) && !(r.contains i) && lateL ss r
theorem prom_elim {P : Program} {N : Nat} {C : Ctx} {σ0 : AEnv} {ι : Type 1} {HT : Nat → ι → AHeap} {accP : List (Nat × AV)} {l : List Oper} {ss : List (List (Nat × Nat))} {K : List (Nat × AV) → Prop} : ∀ {L : List Nat} {c : List (Nat × AV)}, lateL ss L = true → prom P N C σ0 HT accP (clOf l ss L) c K →
    ∃ c', K c' ∧ (∀ j, j ∉ L → lookR c' j = lookR c j) ∧ ∀ i o s, i ∈ L → l[i]? = some o → ss[i]? = some s → ∃ r, lookR c' i = some r ∧ lateQ P N C σ0 (HT i) (c' ++ accP) o s r
  | [], c, _, h => ⟨c, h, fun _ _ => rfl, fun i o s hi => by cases hi⟩
  | i :: L, c, hL, h => by
    simp only [lateL, Bool.and_eq_true, Bool.not_eq_true', List.contains_eq_mem, decide_eq_false_iff_not] at hL
    obtain ⟨⟨h1, h2⟩, h3⟩ := hL
    cases ho : l[i]? with
    | none =>
      simp only [clOf, ho] at h
      obtain ⟨c', k1, k2, k3⟩ := prom_elim h3 h
      exact ⟨c', k1, fun j hj => k2 j (fun hx => hj (List.mem_cons_of_mem _ hx)), fun i' o s hi ho' hs => by
        rcases List.mem_cons.1 hi with rfl | hi
        · rw [ho] at ho'; cases ho'
        · exact k3 i' o s hi ho' hs⟩
    | some o =>
      cases hs : ss[i]? with
      | none =>
        simp only [clOf, ho, hs] at h
        obtain ⟨c', k1, k2, k3⟩ := prom_elim h3 h
        exact ⟨c', k1, fun j hj => k2 j (fun hx => hj (List.mem_cons_of_mem _ hx)), fun i' o s hi ho' hs' => by
          rcases List.mem_cons.1 hi with rfl | hi
          · rw [hs] at hs'; cases hs'
          · exact k3 i' o s hi ho' hs'⟩
      | some s =>
        simp only [clOf, ho, hs, prom] at h
        obtain ⟨r, hd, h⟩ := h
        obtain ⟨c', k1, k2, k3⟩ := prom_elim h3 h
        refine ⟨c', k1, fun j hj => ?_, fun i' o' s' hi ho' hs' => ?_⟩
        · rw [List.mem_cons, not_or] at hj
          rw [k2 j hj.2, lookR_cons, if_neg (Ne.symm hj.1)]
        · rcases List.mem_cons.1 hi with rfl | hi
          · rw [ho] at ho'; cases ho'
            rw [hs] at hs'; cases hs'
            refine ⟨r, by rw [k2 i' h2, lookR_cons, if_pos rfl], fun Hp => ?_⟩
            have he : envOf σ0 (c' ++ accP) s (opTmps o) = envOf σ0 (c ++ accP) s (opTmps o) := envOf_congr' fun t _ j hj => by
              have hj2 := srcFree_get h1 hs hj
              rw [List.mem_cons, not_or] at hj2
              rw [lookR_append, lookR_append, k2 j hj2.2, lookR_cons, if_neg (Ne.symm hj2.1)]
            rw [he]; exact hd Hp
          · exact k3 i' o' s' hi ho' hs'
section
variable (P : Program) (C : Ctx) (N : Nat) (σ0 : AEnv) (bs : Nat → List Bool) (HT : Nat → (AHeap × (Nat → Bool × Blk)) → AHeap) (lps : Nat → List (Nat × Oper × List (Nat × Nat))) (H0 : AHeap) (accP : List (Nat × AV)) (al : List (Nat × AT)) (F : List (Nat × AV) → AHeap → AHeap → Prop)
def planZ : List (Nat × Oper × List (Nat × Nat)) → Nat → List (Nat × AV) → AHeap → AHeap → Prop
  | [], k, cacc, Zs, Hr => (∃ f, Hr = famT (bs k) H0 f 0) ∧ ∀ ws : Nat → Nat, F (cacc ++ rA ws al) (Zs ++ (al.map fun p => p.2.blk (ws p.1))) Hr
  | (i, o, s) :: rest, k, cacc, Zs, Hr => (∃ f, Hr = famT (bs k) H0 f 0) ∧ ∀ Ys : AHeap,
    match lookR accP i with
    | none => OpH P C N o (envOf σ0 (cacc ++ accP) s (opTmps o)) (Zs ++ (Ys ++ Hr)) (fun r H' => ∃ Zs' Hr', H' = Zs' ++ (Ys ++ Hr') ∧ prom P N C σ0 HT accP (lps (k + 1)) ((i, r) :: cacc) (fun c => planZ rest (k + 1) c Zs' Hr'))
    | some r0 => OpH P C N o (envOf σ0 (cacc ++ accP) s (opTmps o)) (Zs ++ (Ys ++ Hr)) (fun r H' => r = r0 ∧ ∃ Zs' Hr', H' = Zs' ++ (Ys ++ Hr') ∧ prom P N C σ0 HT accP (lps (k + 1)) ((i, r0) :: cacc) (fun c => planZ rest (k + 1) c Zs' Hr'))
end
theorem planZ.fam {P : Program} {C : Ctx} {N : Nat} {σ0 : AEnv} {bs : Nat → List Bool} {HT : Nat → (AHeap × (Nat → Bool × Blk)) → AHeap} {lps : Nat → List (Nat × Oper × List (Nat × Nat))} {H0 : AHeap} {accP : List (Nat × AV)} {al : List (Nat × AT)} {F : List (Nat × AV) → AHeap → AHeap → Prop} {l : List (Nat × Oper × List (Nat × Nat))} {k : Nat} {cacc : List (Nat × AV)} {Zs Hr : AHeap}
    (h : planZ P C N σ0 bs HT lps H0 accP al F l k cacc Zs Hr) : ∃ f, Hr = famT (bs k) H0 f 0 := by
  cases l with
  | nil => exact h.1
  | cons p l => exact h.1
def guardless (ops : Array Oper) (i : Nat) : Bool := match ops[i]? with | some o => o.guard.isNone | none => false
def chainOkZ (ops : Array Oper) (n : Nat) (ss : List (List (Nat × Nat))) (ks ci : List Nat) (lps : List (List Nat)) (kA : Nat) : Bool :=
  chainOk ops n ss ci && ci.all (guardless ops) && ks.all (fun i => Nat.blt i n && !(ci.contains i)) && (ci.take kA).all (fun i => srcFree ss i ks) && (ci.drop kA).all (fun i => ks.all (fun j => Region.waitsFor .any ops i j)) &&
  (List.range (ci.length + 1)).all (fun m => (lps.getD m []).all (fun i => Nat.blt i n && !(ci.contains i) && !(ks.contains i) && guardless ops i && srcFree ss i ks &&
    (match m with | 0 => false | m' + 1 => (match ci[m']? with | some j => Region.waitsFor .any ops i j | none => false) || (lps.getD m []).any (fun j => Region.waitsFor .any ops i j)) &&
    (List.range (ci.length + 1)).all (fun m2 => Nat.ble m2 m || (match m2 with | 0 => true | m3 + 1 => match ci[m3]? with | some j => srcFree ss i [j] | none => true) && srcFree ss i (lps.getD m2 []) && !((lps.getD m2 []).contains i))) && lateL ss (lps.getD m []))
def lpMem (lps : List (List Nat)) (q i : Nat) : Prop := ∃ m, m ≤ q ∧ i ∈ lps.getD m []
structure InvZ (P : Program) (C : Ctx) (N : Nat) (σ : AEnv) (bs : Nat → List Bool) (HT : Nat → (AHeap × (Nat → Bool × Blk)) → AHeap) (l : List Oper) (ss : List (List (Nat × Nat))) (lps : List (List Nat)) (H0 : AHeap) (full : List (Nat × AV)) (F : List (Nat × AV) → AHeap → AHeap → Prop) (al : List (Nat × AT)) (ci : List Nat) (cp : List (Nat × Oper × List (Nat × Nat)))
    (k : Nat) (c1 : List (Nat × AV)) (Zs Hr : AHeap) (ws : Nat → Nat) (listed : Array Bool) (cacc : List (Nat × AV)) (H : AHeap) : Prop where
  w : ∀ j ∈ ci, listed.getD j false = true → ∀ i, Region.waitsFor .any l.toArray j i = true → listed.getD i false = true
  kle : k ≤ ci.length
  kp : k ≤ cp.length
  ch : ∀ m i, ci[m]? = some i → (listed.getD i false = true ↔ m < k)
  al0 : ∀ j, j ∈ al.map Prod.fst → lookR c1 j = none
  oth : ∀ j, j ∉ al.map Prod.fst → ¬ lpMem lps ci.length j → lookR cacc j = lookR c1 j
  al1 : ∀ j, j ∈ al.map Prod.fst → lookR cacc j = if listed.getD j false = true then lookR (rA ws al) j else none
  lp : ∀ j, lpMem lps ci.length j → lookR cacc j = (if listed.getD j false = true then lookR c1 j else none) ∧ (listed.getD j false = true → lpMem lps k j)
  due : ∀ m i o s, m ≤ k → i ∈ lps.getD m [] → l[i]? = some o → ss[i]? = some s → ∃ r, lookR c1 i = some r ∧ lateQ P N C σ (HT i) (c1 ++ full) o s r
  H : H = Zs ++ (hA (fun j => listed.getD j false) ws al ++ Hr)
  pl : planZ P C N σ bs HT (fun k => clOf l ss (lps.getD k [])) H0 full al F (cp.drop k) k c1 Zs Hr
theorem getD_mono' {listed : Array Bool} (i : Nat) {j : Nat} (h : listed.getD j false = true) : (listed.setIfInBounds i true).getD j false = true := by
  by_cases e : j = i
  · subst e
    rcases Nat.lt_or_ge j listed.size with h2 | h2
    · exact getD_set_true' h2
    · simp [Array.getElem?_eq_none h2] at h
  · rw [getD_set_ne false (Ne.symm e)]; exact h
section
variable {P : Program} {C : Ctx} {N n : Nat} {σ : AEnv} {bs : Nat → List Bool} {HT : Nat → (AHeap × (Nat → Bool × Blk)) → AHeap} {lps : List (List Nat)} {full : List (Nat × AV)} {F : List (Nat × AV) → AHeap → AHeap → Prop} {l : List Oper} {cp : List (Nat × Oper × List (Nat × Nat))} {kA : Nat} {ss : List (List (Nat × Nat))} {al : List (Nat × AT)} {ci : List Nat} {H0 : AHeap} {listed : Array Bool} {cacc c1 : List (Nat × AV)} {H Zs Hr : AHeap} {k : Nat} {ws : Nat → Nat}
structure OkZ (l : List Oper) (n : Nat) (ss : List (List (Nat × Nat))) (ks ci : List Nat) (lps : List (List Nat)) (kA : Nat) : Prop where
  chain : chainOk l.toArray n ss ci = true
  cg : ∀ i ∈ ci, guardless l.toArray i = true
  ksn : ∀ i ∈ ks, i < n ∧ i ∉ ci
  csrc : ∀ m i, m < kA → ci[m]? = some i → srcFree ss i ks = true
  calc_ : ∀ m i, kA ≤ m → ci[m]? = some i → ∀ j ∈ ks, Region.waitsFor .any l.toArray i j = true
  lp : ∀ m i, m ≤ ci.length → i ∈ lps.getD m [] → i < n ∧ i ∉ ci ∧ i ∉ ks ∧ guardless l.toArray i = true ∧ srcFree ss i ks = true ∧ (m ≠ 0 ∧ ∃ j, Region.waitsFor .any l.toArray i j = true ∧ ((∃ m', m = m' + 1 ∧ ci[m']? = some j) ∨ j ∈ lps.getD m [])) ∧
    ∀ m2, m < m2 → m2 ≤ ci.length → (∀ m3 j, m2 = m3 + 1 → ci[m3]? = some j → srcFree ss i [j] = true) ∧ srcFree ss i (lps.getD m2 []) = true ∧ i ∉ lps.getD m2 []
  late : ∀ m, m ≤ ci.length → lateL ss (lps.getD m []) = true
theorem okZ {ks : List Nat} (h : chainOkZ l.toArray n ss ks ci lps kA = true) : OkZ l n ss ks ci lps kA := by
  simp only [chainOkZ, Bool.and_eq_true] at h
  obtain ⟨⟨⟨⟨⟨h1, h2⟩, h3⟩, h4⟩, h4b⟩, h5⟩ := h
  refine ⟨h1, fun i hi => List.all_eq_true.1 h2 i hi, fun i hi => ?_, fun m i hm hi => List.all_eq_true.1 h4 i (List.mem_of_getElem? (i := m) (by rw [List.getElem?_take, if_pos hm]; exact hi)),
    fun m i hm hi j hj => List.all_eq_true.1 (List.all_eq_true.1 h4b i (List.mem_of_getElem? (i := m - kA) (by rw [List.getElem?_drop, show kA + (m - kA) = m by omega]; exact hi))) j hj, fun m i hm hi => ?_, fun m hm => ?_⟩
  · have := List.all_eq_true.1 h3 i hi
    simp only [Bool.and_eq_true, Bool.not_eq_true', List.contains_eq_mem, decide_eq_false_iff_not] at this
    exact ⟨by simpa [Nat.blt_eq] using this.1, this.2⟩
  · have h6 := List.all_eq_true.1 h5 m (List.mem_range.2 (by omega))
    rw [Bool.and_eq_true] at h6
    have h7 := List.all_eq_true.1 h6.1 i hi
    simp only [Bool.and_eq_true, Bool.not_eq_true', List.contains_eq_mem, decide_eq_false_iff_not] at h7
    obtain ⟨⟨⟨⟨⟨⟨a1, a2⟩, a3⟩, a4⟩, a5⟩, a6⟩, a7⟩ := h7
    refine ⟨by simpa [Nat.blt_eq] using a1, a2, a3, a4, a5, ?_, fun m2 hlt hle => ?_⟩
    · cases m with
      | zero => cases a6
      | succ m' =>
        simp only [Bool.or_eq_true] at a6
        refine ⟨by omega, ?_⟩
        rcases a6 with a6 | a6
        · cases hc : ci[m']? with
          | none => rw [hc] at a6; cases a6
          | some j => rw [hc] at a6; exact ⟨j, a6, .inl ⟨m', rfl, hc⟩⟩
        · obtain ⟨j, hj, hw⟩ := List.any_eq_true.1 a6
          exact ⟨j, hw, .inr hj⟩
    · have h8 := List.all_eq_true.1 a7 m2 (List.mem_range.2 (by omega))
      simp only [Bool.or_eq_true, Bool.and_eq_true, Bool.not_eq_true', decide_eq_false_iff_not] at h8
      rcases h8 with h8 | h8
      · have := Nat.le_of_ble_eq_true h8; omega
      · refine ⟨fun m3 j e hj => ?_, h8.1.2, h8.2⟩
        subst e
        have := h8.1.1
        simp only [hj] at this
        exact this
  · have h6 := List.all_eq_true.1 h5 m (List.mem_range.2 (by omega))
    rw [Bool.and_eq_true] at h6
    exact h6.2
theorem srcFree_nil (i : Nat) : srcFree ss i [] = true := by
  unfold srcFree
  cases ss[i]? with
  | none => rfl
  | some s => simp
theorem OkZ.zero {ks : List Nat} (h : OkZ l n ss ks ci lps kA) : OkZ l n ss (([] : List (Nat × AT)).map Prod.fst) ci lps ci.length := by
  refine ⟨h.chain, h.cg, fun i hi => (by cases hi), fun m i _ _ => srcFree_nil i, fun m i hm hi => ?_, fun m i hm hi => ?_, h.late⟩
  · have := (List.getElem?_eq_some_iff.1 hi).1; omega
  · obtain ⟨b1, b2, b3, b4, b5, b6, b7⟩ := h.lp m i hm hi
    exact ⟨b1, b2, by simp, b4, srcFree_nil i, b6, b7⟩
theorem lpMem_mono {q q' j : Nat} (h : lpMem lps q j) (hq : q ≤ q') : lpMem lps q' j := by obtain ⟨m, h1, h2⟩ := h; exact ⟨m, Nat.le_trans h1 hq, h2⟩
theorem lpMem_one (hz : OkZ l n ss (al.map Prod.fst) ci lps kA) {m q j : Nat} (hm : m ≤ ci.length) (hq : q ≤ ci.length) (h : j ∈ lps.getD m []) (hl : lpMem lps q j) : m ≤ q := by
  obtain ⟨m2, h1, h2⟩ := hl
  rcases Nat.lt_or_ge m2 m with h3 | h3
  · exact absurd h ((hz.lp m2 j (by omega) h2).2.2.2.2.2.2 m h3 hm).2.2
  · omega
theorem InvZ.pure (hz : OkZ l n ss (al.map Prod.fst) ci lps kA) {i : Nat} (h : InvZ P C N σ bs HT l ss lps H0 full F al ci cp k c1 Zs Hr ws listed cacc H) (h1 : i ∉ ci) (h2 : i ∉ al.map Prod.fst) (h3 : ¬ lpMem lps ci.length i) : InvZ P C N σ bs HT l ss lps H0 full F al ci cp k c1 Zs Hr ws (listed.setIfInBounds i true) cacc H := by
  have hput : ∀ j, j ≠ i → (listed.setIfInBounds i true).getD j false = listed.getD j false := fun j hj => getD_set_ne false (Ne.symm hj)
  refine ⟨fun j hj hl q hq => getD_mono' i (h.w j hj (by rwa [hput j (fun e => h1 (e ▸ hj))] at hl) q hq), h.kle, h.kp, fun m j hj => ?_, h.al0, h.oth, fun j hj => ?_, fun j hj => ?_, h.due, ?_, h.pl⟩
  · rw [hput j (fun e => h1 (e ▸ List.mem_of_getElem? hj))]; exact h.ch m j hj
  · rw [hput j (fun e => h2 (e ▸ hj))]; exact h.al1 j hj
  · rw [hput j (fun e => h3 (e ▸ hj))]; exact h.lp j hj
  · rw [h.H]
    congr 2
    exact hA_congr fun p hp => ⟨(hput p.1 (fun e => h2 (e ▸ List.mem_map_of_mem hp))).symm, rfl⟩
theorem InvZ.alloc (hz : OkZ l n ss (al.map Prod.fst) ci lps kA) {p : Nat × AT} (hn : (al.map Prod.fst).Nodup) (hp : p ∈ al) (h : InvZ P C N σ bs HT l ss lps H0 full F al ci cp k c1 Zs Hr ws listed cacc H) (hun : listed.getD p.1 false = false) (hlt : p.1 < listed.size) :
    ∃ F', Hole H hole0 F' ∧ ∀ b, InvZ P C N σ bs HT l ss lps H0 full F al ci cp k c1 Zs Hr (upd ws p.1 b) (listed.setIfInBounds p.1 true) ((p.1, p.2.res b) :: cacc) (F' (p.2.blk b)) := by
  have hput : ∀ j, j ≠ p.1 → (listed.setIfInBounds p.1 true).getD j false = listed.getD j false := fun j hj => getD_set_ne false (Ne.symm hj)
  have hset : (listed.setIfInBounds p.1 true).getD p.1 false = true := getD_set_true' hlt
  have hpm : p.1 ∈ al.map Prod.fst := List.mem_map_of_mem hp
  have hd : p.1 ∉ ci := (hz.ksn p.1 hpm).2
  have hlp : ¬ lpMem lps ci.length p.1 := fun ⟨m, hm, hx⟩ => (hz.lp m p.1 hm hx).2.2.1 hpm
  obtain ⟨F', h1, h2⟩ := hA_hole (f := fun j => listed.getD j false) (ws := ws) (H0 := Hr) hn hp hun
  have hH := h.H
  subst hH
  refine ⟨fun X => Zs ++ F' X, Hole.app h1, fun b => ⟨fun j hj hl q hq => getD_mono' p.1 (h.w j hj (by rwa [hput j (fun e => hd (e ▸ hj))] at hl) q hq), h.kle, h.kp, fun m j hj => ?_, h.al0, fun j hj hj2 => ?_, fun j hj => ?_, fun j hj => ?_, h.due, ?_, h.pl⟩⟩
  · rw [hput j (fun e => hd (e ▸ List.mem_of_getElem? hj))]; exact h.ch m j hj
  · rw [lookR_cons, if_neg (fun e : p.1 = j => hj (e ▸ hpm))]; exact h.oth j hj hj2
  · rw [lookR_cons]
    by_cases e : p.1 = j
    · subst e
      rw [if_pos rfl, if_pos hset, lookR_rA hn hp]
      simp [upd]
    · rw [if_neg e, hput j (Ne.symm e), h.al1 j hj, lookR_rA_congr (ws := ws) (ws' := upd ws p.1 b) (by simp [upd, Ne.symm e])]
  · have hne : p.1 ≠ j := fun e => hlp (e ▸ hj)
    rw [lookR_cons, if_neg hne, hput j (Ne.symm hne)]; exact h.lp j hj
  · show Zs ++ F' (p.2.blk b) = _
    rw [h2 b]
    congr 2
    refine hA_congr fun q hq => ⟨?_, rfl⟩
    by_cases e : q.1 = p.1
    · rw [e, if_pos rfl, hset]
    · rw [if_neg e, hput _ e]
theorem InvZ.env (h : InvZ P C N σ bs HT l ss lps H0 full F al ci cp k c1 Zs Hr ws listed cacc H) {i : Nat} {o : Oper} {s : List (Nat × Nat)} (hok : opOkC l.toArray n ss i = true) (hol : l[i]? = some o) (hs : ss[i]? = some s) (hsf : srcFree ss i (al.map Prod.fst) = true) (hw : ∀ j, Region.waitsFor .any l.toArray i j = true → listed.getD j false = true) :
    envOf σ (cacc ++ full) s (opTmps o) = envOf σ (c1 ++ full) s (opTmps o) := envOf_congr' fun t ht j hj => by
  unfold opOkC at hok
  have ho' : l.toArray[i]? = some o := by simpa using hol
  simp only [ho', hs, Bool.and_eq_true] at hok
  have h6 := List.all_eq_true.1 hok.1 t ht
  unfold readOk at h6
  simp only [hj, Bool.and_eq_true] at h6
  have hlj := hw j h6.2
  rw [lookR_append, lookR_append]
  by_cases hjl : lpMem lps ci.length j
  · rw [(h.lp j hjl).1, if_pos hlj]
  · rw [h.oth j (srcFree_get hsf hs hj) hjl]
theorem InvZ.late (hz : OkZ l n ss (al.map Prod.fst) ci lps kA) (hok : ∀ i, i < n → opOkC l.toArray n ss i = true) {m i : Nat} {o : Oper} {s : List (Nat × Nat)} (hm : m ≤ ci.length) (him : i ∈ lps.getD m [])
    (h : InvZ P C N σ bs HT l ss lps H0 full F al ci cp k c1 Zs Hr ws listed cacc H) (hol : l[i]? = some o) (hs : ss[i]? = some s) (hw : ∀ j, Region.waitsFor .any l.toArray i j = true → listed.getD j false = true) (hlt : i < listed.size) (hfam : ∃ q, H = HT i q) (hnone : lookR full i = none) :
    o.guard = none ∧ OpH P C N o (envOf σ (cacc ++ full) s (opTmps o)) H (fun r H' => (∀ r0, lookR full i = some r0 → r = r0) ∧ InvZ P C N σ bs HT l ss lps H0 full F al ci cp k c1 Zs Hr ws (listed.setIfInBounds i true) ((i, r) :: cacc) H') := by
  obtain ⟨b1, b2, b3, b4, b5, ⟨hm0, j, hwj, hcase⟩, b7⟩ := hz.lp m i hm him
  have hmk : m ≤ k := by
    rcases hcase with ⟨m', e, hc⟩ | hj
    · have := (h.ch m' j hc).1 (hw j hwj); omega
    · exact lpMem_one hz hm h.kle hj ((h.lp j ⟨m, hm, hj⟩).2 (hw j hwj))
  obtain ⟨r, hr1, hr2⟩ := h.due m i o s hmk him hol hs
  have hg : o.guard = none := by
    unfold guardless at b4
    simp only [show l.toArray[i]? = some o by simpa using hol] at b4
    exact Option.isNone_iff_eq_none.1 b4
  refine ⟨hg, ?_⟩
  rw [h.env (hok i b1) hol hs b5 hw]
  obtain ⟨q, rfl⟩ := hfam
  have hput : ∀ j, j ≠ i → (listed.setIfInBounds i true).getD j false = listed.getD j false := fun j hj => getD_set_ne false (Ne.symm hj)
  have hset : (listed.setIfInBounds i true).getD i false = true := getD_set_true' hlt
  have hil : lpMem lps ci.length i := ⟨m, hm, him⟩
  refine OpH.ofP (fun ρ I L hs' a w ha hm' => (hr2 q ρ I L hs' a w ha hm').mono ?_)
  rintro v w' ⟨J, X, q1, q2, q3, q4, q5, rfl, r', q6, rfl⟩
  refine ⟨J, [], q1, q2, q3, q4, q5, rfl, r', q6, fun r0 h0 => (by rw [hnone] at h0; cases h0), ⟨fun j hj hl q hq => getD_mono' i (h.w j hj (by rwa [hput j (fun e => b2 (e ▸ hj))] at hl) q hq), h.kle, h.kp, fun m2 j hj => ?_, h.al0, fun j hj hj2 => ?_, fun j hj => ?_, fun j hj => ?_, h.due, ?_, h.pl⟩⟩
  · rw [hput j (fun e => b2 (e ▸ List.mem_of_getElem? hj))]; exact h.ch m2 j hj
  · rw [lookR_cons, if_neg (fun e : i = j => hj2 (e ▸ hil))]; exact h.oth j hj hj2
  · have hne : i ≠ j := fun e => b3 (e ▸ hj)
    rw [lookR_cons, if_neg hne, hput j (Ne.symm hne)]; exact h.al1 j hj
  · by_cases e2 : i = j
    · subst e2
      rw [lookR_cons, if_pos rfl, if_pos hset, hr1]
      exact ⟨rfl, fun _ => ⟨m, hmk, him⟩⟩
    · rw [lookR_cons, if_neg e2, hput j (Ne.symm e2)]; exact h.lp j hj
  · rw [h.H]
    congr 2
    exact hA_congr fun p hp => ⟨(hput p.1 (fun e => b3 (e ▸ List.mem_map_of_mem hp))).symm, rfl⟩
theorem InvZ.chain (hz : OkZ l n ss (al.map Prod.fst) ci lps kA) (hok : ∀ i, i < n → opOkC l.toArray n ss i = true) {i : Nat} {o : Oper} {s : List (Nat × Nat)} (hcl : ∀ (m i : Nat) (o : Oper) (s : List (Nat × Nat)), m < cp.length → ci[m]? = some i → l[i]? = some o → ss[i]? = some s → cp[m]? = some (i, o, s)) (hkA : cp.length ≤ kA ∨ kA = ci.length) (hkc : k < cp.length) (hnd : ci.Nodup) (hin : i < n)
    (h : InvZ P C N σ bs HT l ss lps H0 full F al ci cp k c1 Zs Hr ws listed cacc H) (hi : i ∈ ci) (hol : l[i]? = some o) (hs : ss[i]? = some s) (hun : listed.getD i false = false) (hw : ∀ j, Region.waitsFor .any l.toArray i j = true → listed.getD j false = true) (hlt : i < listed.size) :
    o.guard = none ∧ OpH P C N o (envOf σ (cacc ++ full) s (opTmps o)) H (fun r H' => (∀ r0, lookR full i = some r0 → r = r0) ∧ ∃ c1' Zs' Hr', InvZ P C N σ bs HT l ss lps H0 full F al ci cp (k + 1) c1' Zs' Hr' ws (listed.setIfInBounds i true) ((i, r) :: cacc) H') := by
  have hg : o.guard = none := by
    have := hz.cg i hi
    unfold guardless at this
    simp only [show l.toArray[i]? = some o by simpa using hol] at this
    exact Option.isNone_iff_eq_none.1 this
  have hia : i ∉ al.map Prod.fst := fun hx => (hz.ksn i hx).2 hi
  have hilp : ¬ lpMem lps ci.length i := fun ⟨m, hm, hx⟩ => (hz.lp m i hm hx).2.1 hi
  have hput : ∀ j, j ≠ i → (listed.setIfInBounds i true).getD j false = listed.getD j false := fun j hj => getD_set_ne false (Ne.symm hj)
  obtain ⟨m, hm⟩ := List.mem_iff_getElem?.1 hi
  have hml : m < ci.length := (List.getElem?_eq_some_iff.1 hm).1
  have hmk : ¬ m < k := fun hx => by have := (h.ch m i hm).2 hx; rw [hun] at this; cases this
  have hkm : m ≤ k := by
    have hch := hz.chain
    unfold chainOk at hch
    cases m with
    | zero => omega
    | succ mj =>
      have h1 := List.all_eq_true.1 hch (mj + 1) (List.mem_range.2 hml)
      simp only [hm, Bool.and_eq_true] at h1
      cases hj : ci[mj]? with
      | none => simp [hj] at h1
      | some j =>
        simp only [hj, Bool.and_eq_true] at h1
        have := (h.ch mj j hj).1 (hw j h1.2.2)
        omega
  obtain rfl : m = k := by omega
  have hcc := hcl m i o s hkc hm hol hs
  have hdrop : cp.drop m = (i, o, s) :: cp.drop (m + 1) := by
    have hlt := (List.getElem?_eq_some_iff.1 hcc).1
    rw [List.drop_eq_getElem_cons hlt]
    congr 1
    rw [List.getElem?_eq_getElem hlt] at hcc
    exact Option.some.inj hcc
  have hpl := h.pl
  rw [hdrop, planZ] at hpl
  replace hpl := hpl.2 (hA (fun j => listed.getD j false) ws al)
  refine ⟨hg, ?_⟩
  rw [h.env (hok i hin) hol hs (hz.csrc m i (by omega) hm) hw]
  have hnext : ∀ r Zs' Hr', prom P N C σ HT full (clOf l ss (lps.getD (m + 1) [])) ((i, r) :: c1) (fun c => planZ P C N σ bs HT (fun k => clOf l ss (lps.getD k [])) H0 full al F (cp.drop (m + 1)) (m + 1) c Zs' Hr') →
      ∃ c1' Zs'' Hr'', InvZ P C N σ bs HT l ss lps H0 full F al ci cp (m + 1) c1' Zs'' Hr'' ws (listed.setIfInBounds i true) ((i, r) :: cacc) (Zs' ++ (hA (fun j => listed.getD j false) ws al ++ Hr')) := fun r Zs' Hr' hq => by
    obtain ⟨c', k1, k2, k3⟩ := prom_elim (hz.late (m + 1) (by omega)) hq
    have hLlp : ∀ j, j ∈ lps.getD (m + 1) [] → lpMem lps ci.length j := fun j hj => ⟨m + 1, by omega, hj⟩
    refine ⟨c', Zs', Hr', fun j hj hl q hwq => ?_, by omega, by omega, fun m' i' hm' => ?_, fun j hj => ?_, fun j hj hj2 => ?_, fun j hj => ?_, fun j hj => ?_, fun m2 i2 o2 s2 hm2 hi2 ho2 hs2 => ?_, ?_, k1⟩
    · by_cases e : j = i
      · subst e; exact getD_mono' j (hw q hwq)
      · exact getD_mono' i (h.w j hj (by rwa [hput j e] at hl) q hwq)
    · by_cases e : i' = i
      · subst e
        have h1 := (List.getElem?_eq_some_iff.1 hm')
        have h2 := (List.getElem?_eq_some_iff.1 hm)
        have : m' = m := (List.getElem_inj (h₀ := h1.1) (h₁ := h2.1) hnd).1 (by rw [h1.2, h2.2])
        subst this
        exact ⟨fun _ => by omega, fun _ => getD_set_true' hlt⟩
      · rw [hput i' e, h.ch m' i' hm']
        have : m' ≠ m := by rintro rfl; rw [hm] at hm'; exact e (Option.some.inj hm').symm
        omega
    · rw [k2 j (fun hx => (hz.lp (m + 1) j (by omega) hx).2.2.1 hj), lookR_cons, if_neg (fun e => hia (by rw [e]; exact hj))]; exact h.al0 j hj
    · rw [k2 j (fun hx => hj2 (hLlp j hx)), lookR_cons, lookR_cons, h.oth j hj hj2]
    · have hji : j ≠ i := fun e => hia (e ▸ hj)
      rw [lookR_cons, if_neg (Ne.symm hji), hput j hji]; exact h.al1 j hj
    · have hji : j ≠ i := fun e => hilp (e ▸ hj)
      rw [lookR_cons, if_neg (Ne.symm hji), hput j hji, (h.lp j hj).1]
      refine ⟨?_, fun hl => lpMem_mono ((h.lp j hj).2 hl) (Nat.le_succ _)⟩
      split
      · rename_i hl
        have hkk := (h.lp j hj).2 hl
        rw [k2 j (fun hx => by have := lpMem_one hz (by omega) (by omega) hx hkk; omega), lookR_cons, if_neg (Ne.symm hji)]
      · rfl
    · rcases Nat.lt_or_ge m m2 with hlt2 | hge2
      · obtain rfl : m2 = m + 1 := by omega
        exact k3 i2 o2 s2 hi2 ho2 hs2
      · obtain ⟨r2, d1, d2⟩ := h.due m2 i2 o2 s2 hge2 hi2 ho2 hs2
        obtain ⟨e1, e2, e3⟩ := (hz.lp m2 i2 (by omega) hi2).2.2.2.2.2.2 (m + 1) (by omega) (by omega)
        have hi2i : i2 ≠ i := fun e => (hz.lp m2 i2 (by omega) hi2).2.1 (e ▸ hi)
        refine ⟨r2, by rw [k2 i2 e3, lookR_cons, if_neg (Ne.symm hi2i)]; exact d1, fun Hp => ?_⟩
        have he : envOf σ (c' ++ full) s2 (opTmps o2) = envOf σ (c1 ++ full) s2 (opTmps o2) := envOf_congr' fun t _ j hj => by
          have hj1 := srcFree_get (e1 m i rfl hm) hs2 hj
          have hj2 := srcFree_get e2 hs2 hj
          have hji : j ≠ i := fun e => hj1 (by simp [e])
          rw [lookR_append, lookR_append, k2 j hj2, lookR_cons, if_neg (Ne.symm hji)]
        rw [he]; exact d2 Hp
    · congr 2
      exact hA_congr fun p hp => ⟨(hput p.1 (fun e => hia (e ▸ List.mem_map_of_mem hp))).symm, rfl⟩
  have hH := h.H
  subst hH
  cases hr : lookR full i with
  | none =>
    rw [hr] at hpl
    exact hpl.mono fun r H' ⟨Zs', Hr', e, hq⟩ => ⟨fun r0 h0 => (by cases h0), e ▸ hnext r Zs' Hr' hq⟩
  | some r0 =>
    rw [hr] at hpl
    exact hpl.mono fun r H' ⟨er, Zs', Hr', e, hq⟩ => ⟨fun q h0 => by cases h0; exact er, by subst er; exact e ▸ hnext _ Zs' Hr' hq⟩
theorem InvZ.toB {F2 : List (Nat × AV) → AHeap → AHeap → Prop} {cp2 : List (Nat × Oper × List (Nat × Nat))} (hz : OkZ l n ss (al.map Prod.fst) ci lps kA) (hnal : (al.map Prod.fst).Nodup)
    (hF : ∀ c Zs Hr, F c Zs Hr → planZ P C N σ bs HT (fun k => clOf l ss (lps.getD k [])) H0 full [] F2 (cp2.drop cp.length) cp.length c Zs Hr)
    (h : InvZ P C N σ bs HT l ss lps H0 full F al ci cp k c1 Zs Hr ws listed cacc H) (hk : k = cp.length) (hcp : cp.length ≤ cp2.length) (hall : ∀ j ∈ al.map Prod.fst, listed.getD j false = true) :
    InvZ P C N σ bs HT l ss lps H0 full F2 [] ci cp2 k (c1 ++ rA ws al) (Zs ++ (al.map fun p => p.2.blk (ws p.1))) Hr ws listed cacc H := by
  subst hk
  have hpl := h.pl
  rw [List.drop_length, planZ] at hpl
  refine ⟨h.w, h.kle, hcp, h.ch, fun j hj => (by cases hj), fun j _ hj2 => ?_, fun j hj => (by cases hj), fun j hj => ?_, fun m i o s hm hi ho hs => ?_, ?_, hF _ _ _ (hpl.2 ws)⟩
  · rw [lookR_append]
    by_cases hja : j ∈ al.map Prod.fst
    · rw [h.al0 j hja, h.al1 j hja, if_pos (hall j hja)]
    · rw [h.oth j hja hj2, lookR_rA_none hja]
      cases lookR c1 j <;> rfl
  · have hja : j ∉ al.map Prod.fst := fun hx => by
      obtain ⟨m, hm, hi⟩ := hj
      exact (hz.lp m j hm hi).2.2.1 hx
    rw [lookR_append, (h.lp j hj).1, lookR_rA_none hja]
    refine ⟨?_, (h.lp j hj).2⟩
    cases lookR c1 j <;> rfl
  · obtain ⟨r, d1, d2⟩ := h.due m i o s hm hi ho hs
    have hsf := (hz.lp m i (Nat.le_trans hm h.kle) hi).2.2.2.2.1
    refine ⟨r, by rw [lookR_append, d1], fun Hp => ?_⟩
    have he : envOf σ ((c1 ++ rA ws al) ++ full) s (opTmps o) = envOf σ (c1 ++ full) s (opTmps o) := envOf_congr' fun t _ j hj => by
      have hj2 := srcFree_get hsf hs hj
      rw [lookR_append, lookR_append, lookR_append, lookR_rA_none hj2]
      cases lookR c1 j <;> rfl
    rw [he]; exact d2 Hp
  · rw [h.H, hA_all fun p hp => hall p.1 (List.mem_map_of_mem hp), List.append_assoc]
    rfl
theorem InvZ.famI {bks qs : List (List Bool)} {ks : List Nat} {i : Nat} (hq : famOk l.toArray n ks ci bks qs = true) (h : InvZ P C N σ (fun k => bks.getD k []) HT l ss lps H0 full F al ci cp k c1 Zs Hr ws listed cacc H) (hin : i < n) (hna1 : i ∉ ks) (hnc : i ∉ ci) (hun : listed.getD i false = false) :
    ∃ q : AHeap × (Nat → Bool × Blk), H = q.1 ++ famT (qs.getD i []) H0 q.2 0 := by
  obtain ⟨f, hf⟩ := h.pl.fam
  have hk := h.kle
  have hle : leB (bks.getD k []) (qs.getD i []) = true := by
    have h1 := List.all_eq_true.1 hq i (List.mem_range.2 hin)
    simp only [Bool.or_eq_true, List.contains_eq_mem, decide_eq_true_eq] at h1
    rcases h1 with (h1 | h1) | h1
    · exact absurd h1 hna1
    · exact absurd h1 hnc
    · have h2 := List.all_eq_true.1 h1 k (List.mem_range.2 (by omega))
      simp only [Bool.or_eq_true] at h2
      rcases h2 with h2 | h2
      · obtain ⟨m, hm, hw⟩ := List.any_eq_true.1 h2
        have hmk := List.mem_range.1 hm
        cases hci : ci[m]? with
        | none => rw [hci] at hw; cases hw
        | some j =>
          rw [hci] at hw
          have h3 := h.w j (List.mem_of_getElem? hci) ((h.ch m j hci).2 hmk) i hw
          rw [hun] at h3; cases h3
      · exact h2
  obtain ⟨f', hf'⟩ := famT_le hle H0 f 0
  exact ⟨(Zs ++ hA (fun j => listed.getD j false) ws al, f'), by rw [h.H, hf, hf', List.append_assoc]⟩
theorem clOf_append (a b : List Nat) : clOf l ss (a ++ b) = clOf l ss a ++ clOf l ss b := by
  induction a with
  | nil => rfl
  | cons i a ih =>
    simp only [List.cons_append, clOf, ih]
    split <;> rfl
theorem clOf_length : ∀ (c : List Nat), (∀ i ∈ c, i < l.length ∧ i < ss.length) → (clOf l ss c).length = c.length
  | [], _ => rfl
  | i :: c, h => by
    obtain ⟨h1, h2⟩ := h i List.mem_cons_self
    simp only [clOf, List.getElem?_eq_getElem h1, List.getElem?_eq_getElem h2, List.length_cons]
    rw [clOf_length c (fun j hj => h j (List.mem_cons_of_mem _ hj))]
end
theorem wpA.drawZ {P : Program} {C : Ctx} {N : Nat} {Q : Exit → AEnv → AHeap → Prop} {σ : AEnv} {H : AHeap} {id : Nat} {l : List Oper} (bks : List (List Bool)) (qs : List (List Bool)) (lps : List (List Nat)) (al : List (Nat × AT)) (kA : Nat) (hm : P.follows .mixedOrders = true) (n : Nat) (ss : List (List (Nat × Nat))) (ci : List Nat)
    (hN : dstOk N l = true) (hB : phiOkC l.toArray n ss = true) (hss : Nat.ble n ss.length = true) (hC : chainOkZ l.toArray n ss (al.map Prod.fst) ci lps kA = true) (hkA : Nat.ble kA ci.length = true) (hnd : ci.Nodup) (hna : (al.map Prod.fst).Nodup)
    (hal : ∀ p ∈ al, ∀ o, l[p.1]? = some o → o.guard = none ∧ ∀ σ' H', OpH P C N o σ' H' (fun r H'' => ∃ b, r = p.2.res b ∧ H'' = p.2.blk b :: H'))
    (hq : famOk l.toArray n (al.map Prod.fst) ci bks qs = true) (hlen : Nat.ble lps.length (ci.length + 1) = true)
    (h : chainQ P N C σ (fun i (q : AHeap × (Nat → Bool × Blk)) => q.1 ++ famT (qs.getD i []) H q.2 0) (al.map Prod.fst ++ (lps.flatten ++ ci)) (fun accP => ((al.map Prod.fst ++ lps.flatten).all fun i => (lookR accP i).isNone) = true ∧
      planZ P C N σ (fun k => bks.getD k []) (fun i (q : AHeap × (Nat → Bool × Blk)) => q.1 ++ famT (qs.getD i []) H q.2 0) (fun k => clOf l ss (lps.getD k [])) H accP al
        (planZ P C N σ (fun k => bks.getD k []) (fun i (q : AHeap × (Nat → Bool × Blk)) => q.1 ++ famT (qs.getD i []) H q.2 0) (fun k => clOf l ss (lps.getD k [])) H accP []
          (fun cacc Zs Hr => wpB P C N l.toArray Q (l.drop n) (finA (cacc ++ accP) (l.take n) 0 σ) (Zs ++ Hr)) (clOf l ss (ci.drop kA)) kA) (clOf l ss (ci.take kA)) 0 [] [] H) (l.take n) ss 0 []) :
    wpA P C N (.region id l.toArray true) Q σ H := .padN (al := al) (by
  have hB0 := hB
  simp only [phiOkC, Bool.and_eq_true, Bool.or_eq_true] at hB
  obtain ⟨⟨⟨⟨⟨hle, hback⟩, hok⟩, hdst⟩, htail⟩, hseq⟩ := hB
  have hle' : n ≤ l.length := by simpa using Nat.le_of_ble_eq_true hle
  have hok' : ∀ i, i < n → opOkC l.toArray n ss i = true := fun i hi => List.all_eq_true.1 hok i (List.mem_range.2 hi)
  have hssl := Nat.le_of_ble_eq_true hss
  obtain ⟨full, ⟨hnone, hF⟩, _, hd⟩ := chainQ_elim (l.take n) ss 0 [] (fun j r hj => by simp [lookR] at hj) h
  have hz := okZ hC
  have hC' := hz.chain
  unfold chainOk at hC'
  have hcin : ∀ i ∈ ci, i < n := fun i hi => by
    obtain ⟨m, hm⟩ := List.mem_iff_getElem?.1 hi
    have h1 := List.all_eq_true.1 hC' m (List.mem_range.2 (List.getElem?_eq_some_iff.1 hm).1)
    simp only [hm, Bool.and_eq_true] at h1
    simpa [Nat.blt_eq] using h1.1
  have hlpf : ∀ i, i ∈ lps.flatten ↔ lpMem lps ci.length i := fun i => by
    have hll := Nat.le_of_ble_eq_true hlen
    constructor
    · intro hi
      obtain ⟨L, hL, hi⟩ := List.mem_flatten.1 hi
      obtain ⟨m, hm, rfl⟩ := List.getElem_of_mem hL
      exact ⟨m, by omega, by simpa [List.getD, hm] using hi⟩
    · rintro ⟨m, _, hi⟩
      by_cases hm2 : m < lps.length
      · simp [List.getD, hm2] at hi
        exact List.mem_flatten.2 ⟨_, List.getElem_mem hm2, hi⟩
      · simp [List.getD, hm2] at hi
  have hcl := clOf_get (l := l) (ss := ss) ci (fun i hi => ⟨_, _, List.getElem?_eq_getElem (Nat.lt_of_lt_of_le (hcin i hi) hle'), List.getElem?_eq_getElem (Nat.lt_of_lt_of_le (hcin i hi) hssl)⟩)
  have hp : ∀ i o s, i < n → i ∉ al.map Prod.fst ++ (lps.flatten ++ ci) → l[i]? = some o → ss[i]? = some s → ∃ r, lookR full i = some r ∧ dutyQ P N C σ (fun q : AHeap × (Nat → Bool × Blk) => q.1 ++ famT (qs.getD i []) H q.2 0) full o s r := fun i o s hi hic ho hsi => by
    obtain ⟨r, acc', h1, h2, h3⟩ := hd i o s (by rw [List.getElem?_take, if_pos hi]; exact ho) hsi (by simpa using hic)
    rw [Nat.zero_add] at h1 h2 h3
    refine ⟨r, h1, fun H' => ?_⟩
    have hoi := hok' i hi
    unfold opOkC at hoi
    have ho' : l.toArray[i]? = some o := by simpa using ho
    simp only [ho', hsi, Bool.and_eq_true] at hoi
    have hback' : ∀ j, Region.waitsFor .any l.toArray i j = true → j < i := fun j hw => by
      obtain ⟨e, he, hb, heq⟩ := waits_mem ho' hw
      have hil : i < l.toArray.size := (Array.getElem?_eq_some_iff.1 ho').1
      have h4 := List.all_eq_true.1 hback i (List.mem_range.2 hil)
      simp only [ho', Array.all_eq_true_iff_forall_mem] at h4
      have h5 := h4 e he
      rw [hb] at h5
      have : e.on < i := by simpa [Nat.blt_eq] using h5
      omega
    have henv : ∀ t ∈ opTmps o, ∀ j, srcOf s t = some j → lookR acc' j = lookR full j := fun t ht j hj => by
      have h6 := List.all_eq_true.1 hoi.1 t ht
      unfold readOk at h6
      simp only [hj, Bool.and_eq_true] at h6
      exact h3 j (hback' j h6.2)
    have hdd := h2 H'
    unfold dutyA at hdd ⊢
    rw [← envOf_congr' henv]
    cases hg : o.guard with
    | none => rw [hg] at hdd; exact hdd
    | some p =>
      obtain ⟨g, want⟩ := p
      rw [hg] at hdd
      have h6 := hoi.2
      rw [hg] at h6
      simp only [Bool.and_eq_true] at h6
      simp only at hdd ⊢
      rw [← h3 g (hback' g h6.1.2)]; exact hdd
  have hkA' := Nat.le_of_ble_eq_true hkA
  have hvalid : ∀ c : List Nat, (∀ i ∈ c, i ∈ ci) → ∀ i ∈ c, i < l.length ∧ i < ss.length := fun c hc i hi => ⟨Nat.lt_of_lt_of_le (hcin i (hc i hi)) hle', Nat.lt_of_lt_of_le (hcin i (hc i hi)) hssl⟩
  have hlA : (clOf l ss (ci.take kA)).length = kA := by
    rw [clOf_length _ (hvalid _ (fun i hi => List.mem_of_mem_take hi)), List.length_take]; omega
  have hlB : (clOf l ss ci).length = ci.length := clOf_length _ (hvalid _ (fun i hi => hi))
  have hdrop : (clOf l ss ci).drop (clOf l ss (ci.take kA)).length = clOf l ss (ci.drop kA) := by
    have := clOf_append (l := l) (ss := ss) (ci.take kA) (ci.drop kA)
    rw [List.take_append_drop] at this
    rw [this, List.drop_left]
  have hclA : ∀ (m i : Nat) (o : Oper) (s : List (Nat × Nat)), m < (clOf l ss (ci.take kA)).length → ci[m]? = some i → l[i]? = some o → ss[i]? = some s → (clOf l ss (ci.take kA))[m]? = some (i, o, s) := fun m i o s hm hi ho hs =>
    clOf_get (ci.take kA) (fun i hi => by
      obtain ⟨h1, h2⟩ := hvalid _ (fun i hi => List.mem_of_mem_take hi) i hi
      exact ⟨_, _, List.getElem?_eq_getElem h1, List.getElem?_eq_getElem h2⟩) m i o s (by rw [List.getElem?_take, if_pos (by omega)]; exact hi) ho hs
  have hzB := hz.zero
  let FB : List (Nat × AV) → AHeap → AHeap → Prop := fun cacc Zs Hr => wpB P C N l.toArray Q (l.drop n) (finA (cacc ++ full) (l.take n) 0 σ) (Zs ++ Hr)
  let FA : List (Nat × AV) → AHeap → AHeap → Prop := planZ P C N σ (fun k => bks.getD k []) (fun i (q : AHeap × (Nat → Bool × Blk)) => q.1 ++ famT (qs.getD i []) H q.2 0) (fun k => clOf l ss (lps.getD k [])) H full [] FB (clOf l ss (ci.drop kA)) kA
  have htoB : ∀ {k c1 Zs Hr ws listed cacc H'}, InvZ P C N σ (fun k => bks.getD k []) (fun i (q : AHeap × (Nat → Bool × Blk)) => q.1 ++ famT (qs.getD i []) H q.2 0) l ss lps H full FA al ci (clOf l ss (ci.take kA)) k c1 Zs Hr ws listed cacc H' → k = kA → (∀ j ∈ al.map Prod.fst, listed.getD j false = true) →
      InvZ P C N σ (fun k => bks.getD k []) (fun i (q : AHeap × (Nat → Bool × Blk)) => q.1 ++ famT (qs.getD i []) H q.2 0) l ss lps H full FB [] ci (clOf l ss ci) k (c1 ++ rA ws al) (Zs ++ (al.map fun p => p.2.blk (ws p.1))) Hr ws listed cacc H' := fun {k c1 Zs Hr ws listed cacc H'} hiv hk hall =>
    hiv.toB hz hna (fun c Zs Hr h => by rw [hdrop, hlA]; exact h) (by rw [hlA]; exact hk) (by rw [hlA, hlB]; exact hkA') hall
  refine wpA.drawG' (fun i (q : AHeap × (Nat → Bool × Blk)) => q.1 ++ famT (qs.getD i []) H q.2 0) hm n ss (al.map Prod.fst ++ (lps.flatten ++ ci)) hN hB0 full
    (fun listed cacc H' => (∃ k c1 Zs Hr ws, InvZ P C N σ (fun k => bks.getD k []) (fun i (q : AHeap × (Nat → Bool × Blk)) => q.1 ++ famT (qs.getD i []) H q.2 0) l ss lps H full FA al ci (clOf l ss (ci.take kA)) k c1 Zs Hr ws listed cacc H') ∨
      ((∀ j ∈ al.map Prod.fst, listed.getD j false = true) ∧ ∃ k c1 Zs Hr ws, InvZ P C N σ (fun k => bks.getD k []) (fun i (q : AHeap × (Nat → Bool × Blk)) => q.1 ++ famT (qs.getD i []) H q.2 0) l ss lps H full FB [] ci (clOf l ss ci) k c1 Zs Hr ws listed cacc H')) ?_ hp ?_ ?_ ?_ ?_
  · refine .inl ⟨0, [], [], H, fun _ => 0, fun j _ hl => (by rw [getD_replicate_false] at hl; cases hl), Nat.zero_le _, Nat.zero_le _, fun m i hi => ⟨fun hl => ?_, fun h => by omega⟩, fun j _ => rfl, fun j _ _ => rfl, fun j _ => ?_, fun j _ => ⟨?_, fun hl => ?_⟩, fun m i o s hm hi => ?_, ?_, hF⟩
    · rw [getD_replicate_false] at hl; cases hl
    · rw [if_neg (by rw [getD_replicate_false]; decide)]; rfl
    · rw [if_neg (by rw [getD_replicate_false]; decide)]; rfl
    · rw [getD_replicate_false] at hl; cases hl
    · obtain ⟨_, _, _, _, _, ⟨hm0, _⟩, _⟩ := hz.lp m i (by omega) hi
      omega
    · rw [List.nil_append]
      congr 1
      exact (List.map_congr_left fun p _ => by simp only [getD_replicate_false]; rfl)
  · rintro listed cacc H' i hiv hin hnc hun
    rw [List.mem_append, List.mem_append, not_or, not_or] at hnc
    rcases hiv with ⟨k, c1, Zs, Hr, ws, hiv⟩ | ⟨_, k, c1, Zs, Hr, ws, hiv⟩
    · exact hiv.famI hq hin hnc.1 hnc.2.2 hun
    · exact hiv.famI hq hin hnc.1 hnc.2.2 hun
  · rintro listed cacc H' i hiv hni
    rw [List.mem_append, List.mem_append, not_or, not_or] at hni
    rcases hiv with ⟨k, c1, Zs, Hr, ws, hiv⟩ | ⟨hall, k, c1, Zs, Hr, ws, hiv⟩
    · exact .inl ⟨k, c1, Zs, Hr, ws, hiv.pure hz hni.2.2 hni.1 (fun hx => hni.2.1 ((hlpf i).2 hx))⟩
    · exact .inr ⟨fun j hj => getD_mono' i (hall j hj), k, c1, Zs, Hr, ws, hiv.pure hzB hni.2.2 (by simp) (fun hx => hni.2.1 ((hlpf i).2 hx))⟩
  · rintro listed cacc H' i o s hiv hic hol hs hun hw hlt
    rcases List.mem_append.1 hic with hk | hc
    · obtain ⟨p, hp, rfl⟩ := List.mem_map.1 hk
      obtain ⟨hg, hop⟩ := hal p hp o hol
      rcases hiv with ⟨k, c1, Zs, Hr, ws, hiv⟩ | ⟨hall, _⟩
      · obtain ⟨F', h1, h2⟩ := hiv.alloc hz hna hp hun hlt
        refine ⟨hg, OpH.into h1 ((hop _ _).mono fun r H'' ⟨b, hr, hH⟩ => ⟨_, hH, fun r0 h0 => ?_, by rw [hr]; exact .inl ⟨k, c1, Zs, Hr, _, h2 b⟩⟩)⟩
        have h3 := List.all_eq_true.1 hnone p.1 (List.mem_append_left _ hk)
        rw [h0] at h3; cases h3
      · rw [hall p.1 hk] at hun; cases hun
    · rcases List.mem_append.1 hc with hlp | hc
      · obtain ⟨m, hm, him⟩ := (hlpf i).1 hlp
        have hlz := hz.lp m i hm him
        have h3 := List.all_eq_true.1 hnone i (List.mem_append_right _ hlp)
        rcases hiv with ⟨k, c1, Zs, Hr, ws, hiv⟩ | ⟨hall, k, c1, Zs, Hr, ws, hiv⟩
        · obtain ⟨hg, hop⟩ := hiv.late hz hok' hm him hol hs hw hlt (hiv.famI hq hlz.1 hlz.2.2.1 hlz.2.1 hun) (Option.isNone_iff_eq_none.1 h3)
          exact ⟨hg, hop.mono fun r H' ⟨q1, q2⟩ => ⟨q1, .inl ⟨k, c1, Zs, Hr, ws, q2⟩⟩⟩
        · obtain ⟨hg, hop⟩ := hiv.late hzB hok' hm him hol hs hw hlt (hiv.famI hq hlz.1 hlz.2.2.1 hlz.2.1 hun) (Option.isNone_iff_eq_none.1 h3)
          exact ⟨hg, hop.mono fun r H' ⟨q1, q2⟩ => ⟨q1, .inr ⟨fun j hj => getD_mono' i (hall j hj), k, c1, Zs, Hr, ws, q2⟩⟩⟩
      · obtain ⟨m, hm⟩ := List.mem_iff_getElem?.1 hc
        have hml : m < ci.length := (List.getElem?_eq_some_iff.1 hm).1
        have hstepB : (∀ j ∈ al.map Prod.fst, listed.getD j false = true) → ∀ {k c1 Zs Hr ws}, InvZ P C N σ (fun k => bks.getD k []) (fun i (q : AHeap × (Nat → Bool × Blk)) => q.1 ++ famT (qs.getD i []) H q.2 0) l ss lps H full FB [] ci (clOf l ss ci) k c1 Zs Hr ws listed cacc H' →
            o.guard = none ∧ OpH P C N o (envOf σ (cacc ++ full) s (opTmps o)) H' (fun r H' => (∀ r0, lookR full i = some r0 → r = r0) ∧ ((∃ k c1 Zs Hr ws, InvZ P C N σ (fun k => bks.getD k []) (fun i (q : AHeap × (Nat → Bool × Blk)) => q.1 ++ famT (qs.getD i []) H q.2 0) l ss lps H full FA al ci (clOf l ss (ci.take kA)) k c1 Zs Hr ws (listed.setIfInBounds i true) ((i, r) :: cacc) H') ∨
              ((∀ j ∈ al.map Prod.fst, (listed.setIfInBounds i true).getD j false = true) ∧ ∃ k c1 Zs Hr ws, InvZ P C N σ (fun k => bks.getD k []) (fun i (q : AHeap × (Nat → Bool × Blk)) => q.1 ++ famT (qs.getD i []) H q.2 0) l ss lps H full FB [] ci (clOf l ss ci) k c1 Zs Hr ws (listed.setIfInBounds i true) ((i, r) :: cacc) H'))) := fun hall {k c1 Zs Hr ws} hiv => by
          have hkc : k < (clOf l ss ci).length := by
            rw [hlB]
            rcases Nat.lt_or_ge k ci.length with h | h
            · exact h
            · have := (hiv.ch m i hm).2 (by omega)
              rw [hun] at this; cases this
          obtain ⟨hg, hop⟩ := hiv.chain hzB hok' (fun m i o s _ => hcl m i o s) (.inr rfl) hkc hnd (hcin i hc) hc hol hs hun hw hlt
          exact ⟨hg, hop.mono fun r H' ⟨q1, c1', Zs', Hr', q2⟩ => ⟨q1, .inr ⟨fun j hj => getD_mono' i (hall j hj), k + 1, c1', Zs', Hr', ws, q2⟩⟩⟩
        rcases hiv with ⟨k, c1, Zs, Hr, ws, hiv⟩ | ⟨hall, k, c1, Zs, Hr, ws, hiv⟩
        · rcases Nat.lt_or_ge k (clOf l ss (ci.take kA)).length with hkc | hkc
          · obtain ⟨hg, hop⟩ := hiv.chain hz hok' hclA (.inl (Nat.le_of_eq hlA)) hkc hnd (hcin i hc) hc hol hs hun hw hlt
            exact ⟨hg, hop.mono fun r H' ⟨q1, c1', Zs', Hr', q2⟩ => ⟨q1, .inl ⟨k + 1, c1', Zs', Hr', ws, q2⟩⟩⟩
          · have hke : k = kA := by have := hiv.kp; omega
            have hmk : kA ≤ m := by
              rcases Nat.lt_or_ge m k with h | h
              · have := (hiv.ch m i hm).2 h
                rw [hun] at this; cases this
              · omega
            have hall : ∀ j ∈ al.map Prod.fst, listed.getD j false = true := fun j hj => hw j (hz.calc_ m i hmk hm j hj)
            exact hstepB hall (htoB hiv hke hall)
        · exact hstepB hall hiv
  · rintro listed cacc H' hiv hall
    have hlist : ∀ j ∈ al.map Prod.fst, listed.getD j false = true := fun j hj => hall j (hz.ksn j hj).1
    have hend : ∀ {k c1 Zs Hr ws}, InvZ P C N σ (fun k => bks.getD k []) (fun i (q : AHeap × (Nat → Bool × Blk)) => q.1 ++ famT (qs.getD i []) H q.2 0) l ss lps H full FB [] ci (clOf l ss ci) k c1 Zs Hr ws listed cacc H' → wpB P C N l.toArray Q (l.drop n) (finA (cacc ++ full) (l.take n) 0 σ) H' := fun {k c1 Zs Hr ws} hiv => by
      have hk := hiv.kle
      have hk' : k = ci.length := by
        rcases Nat.lt_or_ge k ci.length with h | h
        · have := (hiv.ch k _ (List.getElem?_eq_getElem h)).1 (hall _ (hcin _ (List.getElem_mem h)))
          omega
        · omega
      have hpl := hiv.pl
      rw [hk', List.drop_eq_nil_of_le (Nat.le_of_eq hlB), planZ] at hpl
      have h2 : wpB P C N l.toArray Q (l.drop n) (finA ((c1 ++ rA ws []) ++ full) (l.take n) 0 σ) ((Zs ++ []) ++ Hr) := hpl.2 ws
      rw [hiv.H]
      rw [List.append_nil] at h2
      rw [finA_congr (b := (c1 ++ rA ws []) ++ full) fun j => ?_]
      · exact h2
      · rw [lookR_append, lookR_append, lookR_append]
        by_cases hjl : lpMem lps ci.length j
        · obtain ⟨m, hm, him⟩ := hjl
          rw [(hiv.lp j ⟨m, hm, him⟩).1, if_pos (hall j (hz.lp m j hm him).1)]
          cases lookR c1 j <;> rfl
        · rw [hiv.oth j (by simp) hjl]
          cases lookR c1 j <;> rfl
    rcases hiv with ⟨k, c1, Zs, Hr, ws, hiv⟩ | ⟨_, k, c1, Zs, Hr, ws, hiv⟩
    · have hk' : k = kA := by
        have h1 := hiv.kp
        rw [hlA] at h1
        rcases Nat.lt_or_ge k kA with h | h
        · have hkl : k < ci.length := by omega
          have := (hiv.ch k _ (List.getElem?_eq_getElem hkl)).1 (hall _ (hcin _ (List.getElem_mem hkl)))
          omega
        · omega
      exact hend (htoB hiv hk' hlist)
    · exact hend hiv)
end Go.Ab
set_option linter.unusedVariables false
namespace Go.Ab
open Go.Fl Go.RowKit
open Rep (rep)
section rules
variable {P : Program} {C : Ctx} {N : Nat} {σ : AEnv} {H : AHeap} {d : Option Nat} {ty : TypeId} {ps : String} {af : Array Edge} {g : Option (Nat × Bool)} {K : AV → Prop} {KH : AV → AHeap → Prop} {x y z : Operand} {T T2 E S D U : TypeId} {o : Oper}
theorem OpP.slArrPC {β : Type} {n : Nat} {s : Rep β} {ag : Bool} {a : Arr n β} (hn : n ≤ 9223372036854775807) (hf : elemOff P T = some (n, Rep.size β, ag)) (hx : EvA C σ H x (.p a)) (k : K (.vc a.l)) : OpP P N C ⟨d, .slice T x none none none, ty, ps, af, g⟩ σ H K :=
  .vk k (fun ρ I L hs => by
    obtain ⟨u, h2, b, o, cs, rfl, h3, h4⟩ := hx ρ I L hs
    refine .sliceArr hf h2 ⟨⟨some ⟨b, o, none⟩, by rw [a.h]⟩, cs, ?_, h3⟩
    have hl := h3.len
    rw [a.h] at hl ⊢
    exact Sl.of_cells h4 hl (Nat.le_refl _) (by unfold maxLen; omega))
theorem appendXZ {m n by_ : Nat} {ρ : Env} {I : Im} {L : Lh} {zv : Value} {xs : List Value} {a0 : Option Addr} (hT : P.underlying T = some (.slice E)) (h1 : OneT P E by_ zv) (hz1 : zv.cells = #[zv]) (hone : zv.oneCell' = true) (hU : P.underlying U = some (.int .i64))
    (hx : ev ρ x = some (.slice a0 n n)) (hsl : Sl I 1 (.slice a0 n n) n xs) (hy : ev ρ y = some (i64 (m : Int))) (hb : (n + m) * by_ ≤ 140737488355328) (hn : n + m ≤ 9223372036854775807) :
    OpX P N ⟨d, .call ⟨.builtin .append, #[x, y], #[T, U]⟩, ty, ps, af, g⟩ ρ I L (fun v' J X => J = I ∧ ((X = [] ∧ m = 0 ∧ v' = .slice a0 n n) ∨ ∃ Y, X = [Y] ∧ OwnG E 1 v' (n + m) (xs ++ List.replicate m zv) Y)) := by
  obtain ⟨inf, hi, hz, hsz, hs2⟩ := h1.get
  refine OpX.push fun a w ha hm => ?_
  have hzc : ∀ q, Builtin.zeroCells zv.cells q = (List.replicate q zv).toArray := fun q => by
    apply Array.ext'
    simp [Builtin.zeroCells, hz1, Nat.mod_one]
    rw [List.map_const']
    simp
  have hw : IntKind.wrap .i64 (m : Int) = (m : Int) := wrap_i64 (by omega) (by omega)
  have hm00 : ¬ ((m : Int) < 0) := by omega
  have hw0 : IntKind.wrap .i64 0 = 0 := wrap_i64 (by omega) (by omega)
  rw [← hs2] at hb
  have hmb : ¬ ((m : Int) * (inf.bytes : Int) > 281474976710656) := by
    have : m * inf.bytes ≤ (n + m) * inf.bytes := Nat.mul_le_mul_right _ (by omega)
    have h2 : ((m * inf.bytes : Nat) : Int) ≤ 140737488355328 := Int.ofNat_le.2 (Nat.le_trans this hb)
    rw [Int.natCast_mul] at h2
    omega
  have hmb' : ¬ (281474976710656 < (m : Int) * (inf.bytes : Int)) := hmb
  have hop : ∀ r, (Builtin.append_ #[T, U] ty #[.slice a0 n n, i64 (m : Int)]).run P w = r → (execOp a.eval ⟨d, .call ⟨.builtin .append, #[x, y], #[T, U]⟩, ty, ps, af, g⟩).run P w = r.andThen fun v w' => .ok (.value v) w' := fun r hr => by
    simp [execOp, resolve, invoke, builtin, ha.ev hx, ha.ev hy, hr]
  by_cases hm0 : m = 0
  · left
    subst hm0
    refine ⟨.slice a0 n n, ?_, rfl, .inl ⟨rfl, rfl, rfl⟩⟩
    rw [hop (.ok (.slice a0 n n) w)]
    · rfl
    · cases a0 <;> simp [Builtin.append_, run_underlying hT, run_underlying hU, sizeOf, typeInfo, zeroValue, hi, hz, asInt, asIntOf, hw0, storeCells]
  · right
    have hlt : n < n + m := by omega
    have hold : (Builtin.firstCells 1 n (.slice a0 n n)).run P w.drew = .ok xs.toArray w.drew := by
      have hm' : Mem I L w.drew := ⟨hm.im, hm.loc, hm.sep, hm.nodup⟩
      have := (Src.sl (P := P) (L := L) hsl).cells w.drew hm' n (Nat.le_refl _)
      rw [← hsl.len, List.take_length] at this; exact this
    have hge := grownCap_ge w (n + m) n E
    have hcm : grownCap w (n + m) n E ≤ maxLen := grownCap_le_maxLen w _ _ E (by unfold maxLen; omega)
    have hfit : ¬ (281474976710656 < Builtin.nextslicecap (n + m) n * inf.bytes) := by have := growslice_fits hlt hb; omega
    have hnle : ¬ (n + m ≤ n) := by omega
    have h63' : ¬ (9223372036854775807 < ((n : Int) + (m : Int))) := by omega
    have hr : (Builtin.append_ #[T, U] ty #[.slice a0 n n, i64 (m : Int)]).run P w = .ok (.slice (some ⟨w.heap.size, 0, none⟩) (n + m) (grownCap w (n + m) n E))
        (w.drew.alloc (.cells (xs.toArray ++ (List.replicate m zv).toArray ++ Builtin.zeroCells zv.cells (grownCap w (n + m) n E - (n + m))) E)) := by
      simp [Builtin.append_, run_underlying hT, run_underlying hU, sizeOf, typeInfo, zeroValue, hi, hz, asInt, asIntOf, hw, hm00, hmb', hnle, h63', hfit, Question.forced, newRow, grownCap, hold, hsz, hzc, hm0]
    refine ⟨.slice (some ⟨w.heap.size, 0, none⟩) (n + m) (grownCap w (n + m) n E), w.drew.alloc (.cells (xs.toArray ++ (List.replicate m zv).toArray ++ Builtin.zeroCells zv.cells (grownCap w (n + m) n E - (n + m))) E),
      .cells (xs.toArray ++ (List.replicate m zv).toArray ++ Builtin.zeroCells zv.cells (grownCap w (n + m) n E - (n + m))) E, by rw [hop _ hr]; rfl, rfl, rfl, rfl, rfl, rfl, .inr ⟨_, rfl, ?_⟩⟩
    have hxl : xs.length = n * 1 := hsl.len
    refine .inr ⟨w.heap.size, grownCap w (n + m) n E, (Builtin.zeroCells zv.cells (grownCap w (n + m) n E - (n + m))).toList, (0, 0), rfl, ?_, ?_, ?_, hge, hcm, .inl rfl⟩
    · congr 3
      apply Array.ext'; simp
    · rw [List.length_append, hxl, List.length_replicate, Nat.add_mul]; omega
    · rw [hzc]
      simp only [List.length_append, hxl, List.length_replicate]
      omega
theorem OpP.appendZC {α : Type} {r : Rep α} {i0 : Inhabited α} {by_ : Nat} {l : List α} {m : Int} {zv : Value} (hT : P.underlying T = some (.slice E)) (h1 : OneT P E by_ zv) (hz1 : zv.cells = #[zv]) (hone : zv.oneCell' = true) (hsz : Rep.size α = 1)
    (hz : ∀ I, rep I (default : α) [zv]) (hU : P.underlying U = some (.int .i64)) (hx : EvA C σ H x (.vc l)) (hy : EvA C σ H y (.v m)) (h0 : 0 ≤ m) (hb : (l.length + m.toNat) * by_ ≤ 140737488355328) (hn : l.length + m.toNat ≤ 9223372036854775807)
    (k : K (.v (l ++ List.replicate m.toNat (default : α)))) : OpP P N C ⟨d, .call ⟨.builtin .append, #[x, y], #[T, U]⟩, ty, ps, af, g⟩ σ H K := fun ρ I L hs => by
  obtain ⟨u, h2, ⟨a0, rfl⟩, xs, hsl, hrl⟩ := hx ρ I L hs
  obtain ⟨h3, _⟩ := hy.int hs
  have hm : m = ((m.toNat : Nat) : Int) := by omega
  rw [hm] at h3
  rw [hsz] at hsl
  refine OpX.frz fun a w ha hmm => (appendXZ hT h1 hz1 hone hU h2 hsl h3 hb hn a w ha hmm).mono ?_
  rintro v' w' ⟨J, X, q1, q2, q3, q4, q5, rfl, hq⟩
  have hrz : ∀ J', repL J' (List.replicate m.toNat (default : α)) (List.replicate m.toNat zv) := fun J' => by
    have := repL_replicate (hz J') m.toNat
    have e : ∀ n, (List.replicate n [zv]).flatten = List.replicate n zv := fun n => by
      induction n with
      | zero => rfl
      | succ n ih => rw [List.replicate_succ, List.flatten_cons, ih, List.replicate_succ]; rfl
    rwa [e] at this
  refine ⟨J, X, q1, q2, q3, q4, q5, fun J' hle hp => ⟨rfl, .v (l ++ List.replicate m.toNat default), ?_, k⟩⟩
  rcases hq with ⟨rfl, hm0, rfl⟩ | ⟨Y, rfl, hown⟩
  · rw [hm0, List.replicate_zero, List.append_nil]
    exact ⟨_, ⟨_, rfl, xs, by rw [hsz]; exact hsl.mono hle, hrl.mono hle⟩, rfl⟩
  · have hown' : (Blk.own E v' (l ++ List.replicate m.toNat (default : α))).brep J Y := ⟨_, by rw [List.length_append, List.length_replicate, hsz]; exact hown, hrl.append (hrz J)⟩
    exact freeze_own hown' hle (fun p hq => hp p (by simp [hq]))
end rules
section forget
variable {P : Program} {C : Ctx} {N : Nat} {σ : AEnv} {H : AHeap}
end forget
def FlatH (r : AV) (Hs : List Blk) : Prop := FlatV r ∧ ∀ I J L, repK I Hs L → repK J Hs L
theorem FlatV.raw {u : Value} : FlatV (.raw u) := fun I J v h => h
theorem FlatH.own {E : TypeId} {α : Type} [Rep α] [RepF α] {u : Value} {l : List α} : FlatH (.raw u) [.own E u l] := ⟨.raw, fun I J L h => by
  obtain ⟨X, R, rfl, ⟨xs, h1, h2⟩, h3⟩ := h
  exact ⟨X, R, rfl, ⟨xs, h1, h2.any⟩, h3⟩⟩
section calls
variable {P : Program} {C : Ctx} {N : Nat} {σ : AEnv} {H : AHeap} {G : Gl} (hG : G.p C.I0) {f : FuncId} {d : Option Nat} {args : Array Operand} {tys : Array TypeId} {ty : TypeId} {ps : String} {af : Array Edge} {g : Option (Nat × Bool)} {ags : List AV}
include hG
theorem OpH.lend0 {post : AV → List Blk → Prop} {K : AV → AHeap → Prop} (h : FunH G P f ags [] post) (hv : EvLs C σ H args.toList ags) (hf : ∀ r Hs, post r Hs → FlatH r Hs) (k : ∀ r Hs, post r Hs → K r (Hs.map (fun B => (true, B)) ++ H)) :
    OpH P C N ⟨d, .call ⟨.value (.func f), args, tys⟩, ty, ps, af, g⟩ σ H K := fun ρ I L hs => by
  obtain ⟨vs, h1, h2⟩ := hv.get hs
  intro a w ha hst
  have hm := hst.mem
  have hcs : ∀ p ∈ L.flatten, I p.1 = none := hm.sep
  have hle0 : Le I (I.with L.flatten) := Im.with_le hcs
  have hM := h (I.with L.flatten) [] vs (G.mono (hs.im0.trans hle0) hG) (h2 _ hle0 (fun p hp => Im.with_mem hm.nodup hp)) rfl
  have hm2 : Mem (I.with L.flatten) [] w := ⟨fun b o hb => by
    rcases Im.with_some hb with h | h
    · exact hm.loc (b, o) h
    · exact hm.im b o h, by simp, by simp, by simp⟩
  rw [run_callOp hM.ok rfl (ha.ev (x := .func f) rfl) (ha.evL h1)]
  refine (hM.run w hm2).mono ?_
  rintro e w' ⟨v, J, L', rfl, hc, hle, hn, hm', hown, r, Hs', q1, q2, q3⟩
  obtain ⟨f1, f2⟩ := hf r Hs' q3
  have hlt : ∀ p ∈ L.flatten, p.1 < w.heap.size := fun p hp => lt_of_get (hm.loc p hp)
  have hnew : ∀ p ∈ L'.flatten, w.heap.size ≤ p.1 := fun p hp => by simpa using hown p hp
  have hmem : Mem I (L' ++ L) w' := by
    refine ⟨fun b o hb => (hc.block b (lt_of_get (hm.im b o hb)) (by simp)).trans (hm.im b o hb), fun p hp => ?_, fun p hp => ?_, ?_⟩
    · simp only [List.flatten_append, List.mem_append] at hp
      rcases hp with hp | hp
      · exact hm'.loc p hp
      · exact (hc.block p.1 (hlt p hp) (by simp)).trans (hm.loc p hp)
    · simp only [List.flatten_append, List.mem_append] at hp
      rcases hp with hp | hp
      · cases hj : I p.1 with
        | none => rfl
        | some o => have := lt_of_get (hm.im p.1 o hj); have := hnew p hp; omega
      · exact hm.sep p hp
    · simp only [List.flatten_append, List.map_append]
      refine List.nodup_append.2 ⟨hm'.nodup, hm.nodup, ?_⟩
      rintro x hx y hy rfl
      obtain ⟨p, hp, rfl⟩ := List.mem_map.1 hx
      obtain ⟨q, hq, hqe⟩ := List.mem_map.1 hy
      have := hnew p hp
      have := hlt q hq
      omega
  refine ⟨v, rfl, I, L' ++ L, hst.step (by simpa using hc) (Le.refl I) (fun b h0 h1 => absurd h0 h1) hmem hnew, Le.refl I, r, _, f1 _ _ _ q1, ?_, k r Hs' q3⟩
  exact ((f2 J I L' q2).toT (fun p hp => Nat.le_trans hst.chg.size (hnew p hp))).append hs.heap
end calls
end Go.Ab
set_option maxRecDepth 1000000
set_option linter.unusedVariables false
set_option linter.unusedSimpArgs false
namespace Go.Proofs.YtiekhjbhlekaeaaDoor
open Go.Fl Go.Ab Go.Mac Go.Sha
theorem Word_c (s : Str) (b : List UInt8) (hs : s.l.length ≤ 1000) (hb : b.length ≤ 1000000) : FunA gl Tryd.prog 65 [.v s, .v b] (fun r => r = .v (s.l ++ b)) := by
  refine FunA.intro Tryd.func65 rfl (by kernel_rfl) 9 rfl rfl _ rfl fun C hC hG => ?_
  refine .seq ?_
  refine .region rfl ?_
  refine .p (.assign (.nilS (α := UInt8)) ?_)
  refine .nil ?_
  refine .seq ?_
  refine .region rfl ?_
  refine .p (.move (.t rfl) (.h (.strBytes Tryd.underlying9 Tryd.underlying23 Tryd.underlying5 (.t rfl) fun w6 => .p (.move (.t rfl) (.h (.append st23 (.inl ⟨_, Tryd.underlying23⟩) rfl .z (.v (.t rfl)) (by first | omega | (simp; done) | (simp; omega) | (simp at *; omega)) (by first | omega | (simp; done) | (simp; omega) | (simp at *; omega)) (fun w8 => .p (.assign (.t rfl) ?_)) rfl))))))
  refine .nil ?_
  refine .frzOwn hC .z ?_
  refine .as 4 rfl .z ?_
  refine .ret ?_
  refine ⟨_, .r1 rfl (.tmp rfl), ?_⟩
  rfl
theorem sh_ofInt (j : Nat) (h : j < 8) : UInt64.ofInt (56 - 8 * (j : Int)) = UInt64.ofNat (56 - 8 * j) := by
  apply UInt64.toNat_inj.1
  have := be64_sh j h
  rw [UInt64.toNat_ofNat']
  omega
theorem eightOwn_c (n : UInt64) : FunH gl Tryd.prog 62 [.v n] [] (fun r Hs => ∃ u, r = .raw u ∧ Hs = [.own 5 u (be64 n 8)]) := by
  refine FunH.introD Tryd.func62 rfl (by kernel_rfl) 18 rfl rfl _ rfl _ rfl fun C hC hG => ?_
  refine .seq ?_
  refine .region rfl ?_
  refine .p (.assign .raw ?_)
  refine .nil ?_
  refine .seq ?_
  refine .region rfl ?_
  refine .p (.assign .raw ?_)
  refine .nil ?_
  refine .seq ?_
  refine .seq ?_
  refine .nilOwn 5 UInt8 ?_
  refine .region rfl ?_
  refine .p (.assign (.i rfl) ?_)
  refine .nil ?_
  refine .block ?_
  refine .loopR (α := Nat × Value) [(0, _)] (fun x R => (3, .raw x.2) :: (4, .v (56 - 8 * (x.1 : Int))) :: R) (fun x => [(true, .own 5 x.2 (be64 n x.1))]) (fun x => x.1 ≤ 8) (fun x => 8 - x.1) ((0, .slice none 0 0)) (.cons rfl (.nil _)) ?_ (.cons rfl (.cons rfl (.cons rfl (.nil _)))) (rfl) fun x hF => ?_
  · simp
  obtain ⟨j, w⟩ := x
  dsimp only at hF ⊢
  refine .seq ?_
  refine .seq ?_
  refine .region rfl ?_
  refine .p (.move (.t rfl) (.p (.geq (.t rfl) (.i rfl) ?_)))
  refine .nil ?_
  refine .condP (.t rfl) (fun hc6 => ?_) (fun hc6 => ?_)
  · refine .skip ?_
    refine .seq ?_
    refine .block ?_
    have hbe := be64_length n j
    have hs5 := be64_sh j (by omega)
    refine .region rfl ?_
    refine .p (.move (.t rfl) (.p (.move (.t rfl) (.p (.move (.t rfl) (.p (.conv64 Tryd.underlying3 Tryd.underlying119 (.t rfl) (.p (.shr64 (.t rfl) (.t rfl) (by first | omega | (simp; done) | (simp; omega) | (simp at *; omega)) (by first | omega | (simp; done) | (simp; omega) | (simp at *; omega)) (.p (.conv64_8 Tryd.underlying90 Tryd.underlying5 (.t rfl) ?_)))))))))))
    refine .h (.buildSlice (α := UInt8) ty5 Tryd.underlying23 (.cons (.t rfl) .nil) rfl (by decide) fun b15 => .h (.append st23 (.inl ⟨_, Tryd.underlying23⟩) rfl (.s .z) (.own rfl .z) (by first | omega | (simp; done) | (simp; omega) | (simp at *; omega)) (by first | omega | (simp; done) | (simp; omega) | (simp at *; omega)) (fun w16 => .p (.assign (.t rfl) ?_)) rfl))
    refine .drop ?_
    refine .nil ?_
    refine .region rfl ?_
    refine .p (.move (.t rfl) (.p (.sub (.t rfl) (.i rfl) (by first | omega | (simp; done) | (simp; omega) | (simp at *; omega)) (by first | omega | (simp; done) | (simp; omega) | (simp at *; omega)) (.p (.assign (.t rfl) ?_)))))
    refine .nil ?_
    refine ⟨(j + 1, w16), .cons rfl (.cons (congrArg (fun q => some (AV.v q)) (by dsimp only; omega)) (.cons rfl (.nil _))), congrArg (fun q => [(true, Blk.own _ _ q)]) (by dsimp only; rw [be64_succ, ← sh_ofInt j (by omega)]), ?_, by dsimp only; omega⟩
    dsimp only; omega
  · refine .exit ?_
    refine .seq ?_
    refine .region rfl ?_
    refine .p (.move (.t rfl) (.p (.assign (.t rfl) ?_)))
    refine .nil ?_
    refine .ret ?_
    refine ⟨_, .r1 rfl (.tmp rfl), ?_⟩
    obtain rfl : j = 8 := by omega
    exact ⟨0, _, rfl, rfl⟩
def streamStr : Str := ⟨[115, 116, 114, 101, 97, 109]⟩
def keyBlock (key : Tag) (nonce : UInt64) (q : Nat) : Tag := hmac key.l (streamStr.l ++ (be64 nonce 8 ++ be64 (UInt64.ofNat q) 8))
def streamByte (key : Tag) (nonce : UInt64) (i : Nat) : UInt8 := (keyBlock key nonce (i / 32)).l.getD (i % 32) 0
def streamL (key : Tag) (nonce : UInt64) (b : List UInt8) (k : Nat) : List UInt8 := (b.take k).mapIdx (fun i c => c ^^^ streamByte key nonce i) ++ b.drop k
theorem streamL_length (key : Tag) (nonce : UInt64) (b : List UInt8) (k : Nat) : (streamL key nonce b k).length = b.length := by simp [streamL]; omega
theorem streamL_get (key : Tag) (nonce : UInt64) (b : List UInt8) (k : Nat) (hk : k < b.length) (h : k < (streamL key nonce b k).length) : (streamL key nonce b k)[k] = b[k] := by
  simp only [streamL]
  rw [List.getElem_append_right (by simp; omega)]
  simp
  congr 1; omega
theorem streamL_succ (key : Tag) (nonce : UInt64) (b : List UInt8) (k : Nat) (hk : k < b.length) : (streamL key nonce b k).set k (b[k] ^^^ streamByte key nonce k) = streamL key nonce b (k + 1) := by
  apply List.ext_getElem (by simp [streamL_length])
  intro j h1 h2
  rw [List.getElem_set]
  simp only [streamL]
  by_cases e : k = j
  · subst e
    rw [if_pos rfl, List.getElem_append_left (by simp; omega)]
    simp
  · rw [if_neg e]
    rcases Nat.lt_or_ge j k with h | h
    · rw [List.getElem_append_left (by simp; omega), List.getElem_append_left (by simp; omega)]
      simp
    · rw [List.getElem_append_right (by simp; omega), List.getElem_append_right (by simp; omega)]
      simp
      congr 1; omega
theorem stream_step (key : Tag) (nonce : UInt64) (b : List UInt8) (k : Nat) (hk : k < b.length) (h1 : (k : Int).toNat < (streamL key nonce b k).length) (h2 : ((k : Int) % 32).toNat < 32) :
    (streamL key nonce b k).set (k : Int).toNat ((streamL key nonce b k)[(k : Int).toNat] ^^^ (Lens.idx ((k : Int) % 32).toNat h2).get (hmac key.l (streamStr.l ++ (be64 nonce 8 ++ be64 (UInt64.ofInt ((k : Int) / 32)) 8)))) = streamL key nonce b (k + 1) := by
  rw [← streamL_succ key nonce b k hk]
  have e1 : (streamL key nonce b k)[(k : Int).toNat] = b[k] := streamL_get key nonce b k hk h1
  have e2 : UInt64.ofInt ((k : Int) / 32) = UInt64.ofNat (k / 32) := by
    apply UInt64.toNat_inj.1
    rw [show (k : Int) / 32 = ((k / 32 : Nat) : Int) by omega]
    simp [UInt64.ofInt]; omega
  have e3 : (Lens.idx ((k : Int) % 32).toNat h2).get (hmac key.l (streamStr.l ++ (be64 nonce 8 ++ be64 (UInt64.ofInt ((k : Int) / 32)) 8))) = streamByte key nonce k := by
    rw [e2]
    show (keyBlock key nonce (k / 32)).l[((k : Int) % 32).toNat]'_ = _
    unfold streamByte
    have h3 : ((k : Int) % 32).toNat = k % 32 := by omega
    have h4 : k % 32 < (keyBlock key nonce (k / 32)).l.length := by rw [Arr.len]; omega
    simp only [h3]
    rw [List.getD_eq_getElem?_getD, List.getElem?_eq_getElem h4]; rfl
  rw [e1, e3]; rfl
theorem rStream_c (key : Tag) (nonce : UInt64) (b : List UInt8) (hb : b.length ≤ 1000000) : FunA gl Tryd.prog 64 [.v key, .v nonce, .v b] (fun r => r = .v (streamL key nonce b b.length)) := by
  refine FunA.intro Tryd.func64 rfl (by kernel_rfl) 42 rfl rfl _ rfl fun C hC hG => ?_
  refine .seq ?_
  refine .region rfl ?_
  refine .h (.box (.t rfl) fun b3 => .p (.assign (.nilS (α := UInt8)) ?_))
  refine .nil ?_
  refine .seq ?_
  refine .frzOb hC .z ?_
  refine .asP 3 rfl .z ?_
  refine .region rfl ?_
  refine .h (.buildSlice (α := UInt8) ty5 Tryd.underlying23 .nil rfl (by decide) fun b10 => .p (.move (.t rfl) (.h (.append st23 (.inl ⟨_, Tryd.underlying23⟩) rfl .z (.v (.t rfl)) (by first | omega | (simp; done) | (simp; omega) | (simp at *; omega)) (by first | omega | (simp; done) | (simp; omega) | (simp at *; omega)) (fun w12 => .p (.assign (.t rfl) ?_)) rfl))))
  refine .nil ?_
  refine .seq ?_
  refine .seq ?_
  refine .region rfl ?_
  refine .p (.assign (.i rfl) ?_)
  refine .nil ?_
  refine .block ?_
  refine .loopR (α := Nat) [(1, _), (3, _), (7, _)] (fun k R => (8, .v (k : Int)) :: R) (fun k => [(true, .own 5 w12 (streamL key nonce b k)), (true, .fz (ptr b3 0) (.p key))]) (fun k => k ≤ b.length) (fun k => b.length - k) (0) (.cons rfl (.cons rfl (.cons rfl (.nil _)))) ?_ (.cons rfl (.cons rfl (.cons rfl (.cons rfl (.nil _))))) (rfl) fun k hF => ?_
  · simp
  have hl0 := streamL_length key nonce b k
  refine .seq ?_
  refine .seq ?_
  refine .region rfl ?_
  refine .p (.move (.t rfl) (.p (.move (.t rfl) (.p (.lenOwn Tryd.underlying23 rfl .z (.p (.lss (.t rfl) (.t rfl) ?_)))))))
  refine .nil ?_
  refine .condP (.t rfl) (fun hc16 => ?_) (fun hc16 => ?_)
  · refine .skip ?_
    refine .seq ?_
    refine .block ?_
    refine .seq ?_
    have hb1 := be64_length nonce 8
    have hb2 := be64_length (UInt64.ofInt ((k : Int) / 32)) 8
    have hl5 := streamL_length key nonce b k
    refine .drawZ [[false, false], [false, false], [false, false], [false, false]] [[false, false], [false, false], [], [false, false], [false, false], [false, false], [false, false], [], [], [false, false], []] [[], [], [], [9]] [(10, (⟨(Arr 32 UInt8), inferInstance, default⟩ : AT))] 3 (by kernel_rfl) 11 [[], [], [(20, 1)], [], [(22, 3)], [(23, 4)], [(24, 5)], [(21, 2), (25, 6)], [(26, 7)], [(19, 0), (27, 8)], []] [2, 7, 8] rfl (by kernel_rfl) rfl (by kernel_rfl) rfl (by decide) (by simp) (List.forall_mem_cons.2 ⟨fun o ho => by obtain rfl := Option.some.inj (show some _ = some o from ho); exact ⟨rfl, fun _ _ => OpH.alloc ty28 fun b => ⟨b, rfl, rfl⟩⟩, (fun p hp => by cases hp)⟩) (by kernel_rfl) rfl ?_
    refine ⟨_, fun H => OpP.slArrP (by decide) ar28 (.t rfl) rfl, ?_⟩
    refine ⟨_, fun H => OpP.move (.t rfl) rfl, ?_⟩
    refine .inl ?_
    refine ⟨_, fun H => OpP.move (.t rfl) rfl, ?_⟩
    refine ⟨_, fun H => OpP.quo (.t rfl) (.i rfl) (by first | omega | (simp; done) | (simp; omega) | (simp at *; omega)) (by first | omega | (simp; done) | (simp; omega) | (simp at *; omega)) rfl, ?_⟩
    refine ⟨_, fun H => OpP.conv64 Tryd.underlying3 Tryd.underlying90 (.t rfl) rfl, ?_⟩
    refine ⟨_, fun H => OpP.call1 hG (Eight_c _) (.cons (.t rfl) .nil) rfl, ?_⟩
    refine .inl ?_
    refine .inl ?_
    refine .inl ?_
    refine .inl ?_
    refine ⟨rfl, ?_⟩
    refine ⟨⟨fun k => List.getD [(true, .none_), (true, .none_)] k (true, .none_), rfl⟩, fun Ys5 => ?_⟩
    refine OpH.call0 hG (eightOwn_c _) (.cons (.t rfl) .nil) fun r21 Hs21 hr21 => ?_
    obtain ⟨u21, rfl, rfl⟩ := hr21
    refine ⟨[_], _, rfl, ?_⟩
    refine ⟨⟨fun k => List.getD [(true, .none_), (true, .none_)] k (true, .none_), rfl⟩, fun Ys5 => ?_⟩
    refine OpH.append st23 (.inl ⟨_, Tryd.underlying23⟩) rfl .z (.v (.t rfl)) (by first | omega | (simp; done) | (simp; omega) | (simp at *; omega)) (by first | omega | (simp; done) | (simp; omega) | (simp at *; omega)) (fun w26 => ?_) rfl
    refine ⟨[_], _, rfl, ?_⟩
    refine ⟨⟨fun k => List.getD [(true, .none_), (true, .none_)] k (true, .none_), rfl⟩, fun Ys5 => ?_⟩
    refine OpH.frzOwn hC .z (OpH.as 26 rfl .z (OpH.ofP (OpP.call1 hG (Word_c _ _ (by first | omega | (simp; done) | (simp; omega) | (simp at *; omega)) (by first | omega | (simp; done) | (simp; omega) | (simp at *; omega))) (.cons (.s [115, 116, 114, 101, 97, 109] (by decide) (by decide)) (.cons (.t rfl) .nil)) ?_)))
    refine ⟨[_], _, rfl, ?_⟩
    refine ⟨_, fun H => OpP.call1 hG (rHmac_c _ _ (by first | omega | (simp; done) | (simp; omega) | (simp at *; omega)) (by first | omega | (simp; done) | (simp; omega) | (simp at *; omega))) (.cons (.t rfl) (.cons (.t rfl) .nil)) rfl, ?_⟩
    refine ⟨⟨fun k => List.getD [(true, .none_), (true, .none_)] k (true, .none_), rfl⟩, fun ws5 => ?_⟩
    refine ⟨⟨fun k => List.getD [(true, .none_), (true, .none_)] k (true, .none_), rfl⟩, fun _ => ?_⟩
    show wpB _ _ _ _ _ _ ((9, _) :: (28, _) :: (27, _) :: (26, _) :: (25, _) :: (24, _) :: (23, _) :: (22, _) :: (21, _) :: (20, _) :: (19, _) :: _) _
    refine .n (.stW ty28 (.t rfl) (.t rfl) (.s .z) ?_)
    refine .nil ?_
    have hl6 := streamL_length key nonce b k
    refine .draw (by kernel_rfl) 12 [[], [], [], [], [(31, 2), (32, 3)], [(33, 4)], [], [(35, 6)], [(36, 7)], [(37, 8)], [(34, 5), (38, 9)], [(29, 0), (30, 1)]] rfl (by kernel_rfl) rfl ?_
    refine ⟨_, OpP.move (.t rfl) rfl, ?_⟩
    refine ⟨_, OpP.move (.t rfl) rfl, ?_⟩
    refine ⟨_, OpP.move (.t rfl) rfl, ?_⟩
    refine ⟨_, OpP.move (.t rfl) rfl, ?_⟩
    refine ⟨_, OpP.idxOwn ty5 Tryd.underlying23 rfl (.s (.s .z)) (.t rfl) (by first | omega | (simp; done) | (simp; omega) | (simp at *; omega)) (by first | omega | (simp; done) | (simp; omega) | (simp at *; omega)) rfl, ?_⟩
    refine ⟨_, OpP.ldEW ty5 (.t rfl) (.s (.s .z)) (by first | omega | (simp; done) | (simp; omega) | (simp at *; omega)) rfl, ?_⟩
    refine ⟨_, OpP.move (.t rfl) rfl, ?_⟩
    refine ⟨_, OpP.rem (.t rfl) (.i rfl) (by first | omega | (simp; done) | (simp; omega) | (simp at *; omega)) (by first | omega | (simp; done) | (simp; omega) | (simp at *; omega)) rfl, ?_⟩
    refine ⟨_, OpP.idxW ar28 (.t rfl) (.t rfl) (by first | omega | (simp; done) | (simp; omega) | (simp at *; omega)) (by first | omega | (simp; done) | (simp; omega) | (simp at *; omega)) rfl, ?_⟩
    refine ⟨_, OpP.ldL ty5 (.t rfl) (.s .z) rfl, ?_⟩
    refine ⟨_, OpP.xor8 (.t rfl) (.t rfl) rfl, ?_⟩
    refine ⟨_, OpP.idxOwn ty5 Tryd.underlying23 rfl (.s (.s .z)) (.t rfl) (by first | omega | (simp; done) | (simp; omega) | (simp at *; omega)) (by first | omega | (simp; done) | (simp; omega) | (simp at *; omega)) rfl, ?_⟩
    show wpB _ _ _ _ _ _ ((40, _) :: (39, _) :: (38, _) :: (37, _) :: (36, _) :: (35, _) :: (34, _) :: (33, _) :: (32, _) :: (31, _) :: (30, _) :: (29, _) :: _) _
    refine .n (.stEW ty5 (.t rfl) (.t rfl) (.s (.s .z)) (by first | omega | (simp; done) | (simp; omega) | (simp at *; omega)) ?_)
    refine .drop ?_
    refine .drop ?_
    refine .nil ?_
    refine .region rfl ?_
    refine .p (.move (.t rfl) (.p (.add (.t rfl) (.i rfl) (by first | omega | (simp; done) | (simp; omega) | (simp at *; omega)) (by first | omega | (simp; done) | (simp; omega) | (simp at *; omega)) (.p (.assign (.t rfl) ?_)))))
    refine .nil ?_
    refine ⟨k + 1, .cons rfl (.cons rfl (.cons rfl (.cons rfl (.nil _)))), congrArg (fun q => [(true, Blk.own _ _ q), _]) (stream_step key nonce b k (by omega) _ _), ?_, by omega⟩
    omega
  · refine .exit ?_
    refine .seq ?_
    refine .region rfl ?_
    refine .p (.move (.t rfl) (.p (.assign (.t rfl) ?_)))
    refine .nil ?_
    refine .frzOwn hC .z ?_
    refine .as 6 rfl .z ?_
    refine .ret ?_
    refine ⟨_, .r1 rfl (.tmp rfl), ?_⟩
    obtain rfl : k = b.length := by omega
    rfl
theorem wordOwn_c (s : Str) (b : List UInt8) (hs : s.l.length ≤ 1000) (hb : b.length ≤ 1000000) : FunH gl Tryd.prog 65 [.v s, .v b] [] (fun r Hs => ∃ u, r = .raw u ∧ Hs = [.own 5 u (s.l ++ b)]) := by
  refine FunH.introS Tryd.func65 rfl (by kernel_rfl) 9 rfl rfl _ rfl _ rfl fun C hC hG => ?_
  refine .seq ?_
  refine .region rfl ?_
  refine .p (.assign (.nilS (α := UInt8)) ?_)
  refine .nil ?_
  refine .seq ?_
  refine .region rfl ?_
  refine .p (.move (.t rfl) (.h (.strBytes Tryd.underlying9 Tryd.underlying23 Tryd.underlying5 (.t rfl) fun w6 => .p (.move (.t rfl) (.h (.append st23 (.inl ⟨_, Tryd.underlying23⟩) rfl .z (.v (.t rfl)) (by first | omega | (simp; done) | (simp; omega) | (simp at *; omega)) (by first | omega | (simp; done) | (simp; omega) | (simp at *; omega)) (fun w8 => .p (.assign (.t rfl) ?_)) rfl))))))
  refine .nil ?_
  refine .ret ?_
  refine ⟨_, .r1 rfl (.tmp rfl), ?_⟩
  refine ⟨_, .cons .z (.nil), ?_⟩
  exact ⟨w8, rfl, rfl⟩
def boxStr : Str := ⟨[98, 111, 120]⟩
def sealEq (k : Tag) (n : Int) (p : List UInt8) (x : G_api_Sealed) : Bool := decide (x.Key = k) && decide (x.Nonce = n) && decide (x.Plain = p)
def sealHead (k : Tag) (n : Int) (p : List UInt8) : List UInt8 := be64 (UInt64.ofInt n) 8 ++ streamL k (UInt64.ofInt n) p p.length
def realBox (k : Tag) (n : Int) (p : List UInt8) : List UInt8 := sealHead k n p ++ (hmac k.l (boxStr.l ++ sealHead k n p)).l
def newBox (a : Alg) (k : Tag) (n : Int) (p : List UInt8) : List UInt8 := if a.Free then (symTag 98 (a.Boxes.length + 1)).l ++ List.replicate (p.length + 8) 0 else realBox k n p
def algSeal (a : Alg) (k : Tag) (n : Int) (p : List UInt8) : Alg × List UInt8 × Int :=
  if n < 0 ∨ 281474976710656 < n then (default, [], 1) else if 256 < p.length then (default, [], 2) else
  match a.Boxes.find? (sealEq k n p) with
  | some x => (a, x.Box, 0)
  | none => if 65536 ≤ a.Boxes.length then (default, [], 2) else
    (⟨a.Free, a.Seed, a.Fresh, a.Macs, a.Boxes ++ [⟨k, n, p, newBox a k n p⟩]⟩, newBox a k n p, 0)
theorem algSeal_range {a : Alg} {k : Tag} {n : Int} {p : List UInt8} (h : (decide (n < 0) || decide (281474976710656 < n)) = true) : algSeal a k n p = (default, [], 1) := by
  unfold algSeal; rw [if_pos (by simpa using h)]
theorem algSeal_long {a : Alg} {k : Tag} {n : Int} {p : List UInt8} (h : (decide (n < 0) || decide (281474976710656 < n)) = false) (h2 : 256 < p.length) : algSeal a k n p = (default, [], 2) := by
  unfold algSeal; rw [if_neg (by simp at h ⊢; omega), if_pos h2]
theorem algSeal_found {a : Alg} {k : Tag} {n : Int} {p : List UInt8} {x : G_api_Sealed} (h : (decide (n < 0) || decide (281474976710656 < n)) = false) (h2 : ¬ 256 < p.length) (h3 : a.Boxes.find? (sealEq k n p) = some x) : algSeal a k n p = (a, x.Box, 0) := by
  unfold algSeal; rw [if_neg (by simp at h ⊢; omega), if_neg h2, h3]
theorem algSeal_full {a : Alg} {k : Tag} {n : Int} {p : List UInt8} (h : (decide (n < 0) || decide (281474976710656 < n)) = false) (h2 : ¬ 256 < p.length) (h3 : a.Boxes.find? (sealEq k n p) = none) (h4 : 65536 ≤ a.Boxes.length) : algSeal a k n p = (default, [], 2) := by
  unfold algSeal; rw [if_neg (by simp at h ⊢; omega), if_neg h2, h3]; simp only []; rw [if_pos h4]
theorem algSeal_new {a : Alg} {k : Tag} {n : Int} {p : List UInt8} (h : (decide (n < 0) || decide (281474976710656 < n)) = false) (h2 : ¬ 256 < p.length) (h3 : a.Boxes.find? (sealEq k n p) = none) (h4 : ¬ 65536 ≤ a.Boxes.length) :
    algSeal a k n p = (⟨a.Free, a.Seed, a.Fresh, a.Macs, a.Boxes ++ [⟨k, n, p, newBox a k n p⟩]⟩, newBox a k n p, 0) := by
  unfold algSeal; rw [if_neg (by simp at h ⊢; omega), if_neg h2, h3]; simp only []; rw [if_neg h4]
theorem newBox_free {a : Alg} {k : Tag} {n : Int} {p : List UInt8} (h : a.Free = true) : newBox a k n p = (symTag 98 (a.Boxes.length + 1)).l ++ List.replicate (p.length + 8) 0 := by unfold newBox; rw [if_pos h]
theorem newBox_real {a : Alg} {k : Tag} {n : Int} {p : List UInt8} (h : a.Free = false) : newBox a k n p = realBox k n p := by unfold newBox; rw [if_neg (by rw [h]; decide)]
theorem findS_some {l : List G_api_Sealed} {p : G_api_Sealed → Bool} {k : Nat} (h : k < l.length) (h1 : p l[k] = true) (h2 : ∀ j (hj : j < l.length), j < k → p l[j] = false) : l.find? p = some l[k] :=
  List.find?_eq_some_iff_getElem.2 ⟨h1, k, h, rfl, fun j hj => by rw [h2 j (by omega) hj]; rfl⟩
theorem findS_none {l : List G_api_Sealed} {p : G_api_Sealed → Bool} (h : ∀ j (hj : j < l.length), p l[j] = false) : l.find? p = none :=
  List.find?_eq_none.2 fun x hx => by
    obtain ⟨j, hj, rfl⟩ := List.getElem_of_mem hx
    rw [h j hj]; decide
theorem rSeal_c (a : Alg) (k : Tag) (n : Int) (p : List UInt8) (hb : ∀ x ∈ a.Boxes, x.Box.length ≤ 1000000) : FunA gl Tryd.prog 37 [.v a, .v k, .v n, .v p] (fun r => r = .t3 (.v (algSeal a k n p).1) (.v (algSeal a k n p).2.1) (.v (algSeal a k n p).2.2)) := by
  refine FunA.intro Tryd.func37 rfl (by kernel_rfl) 111 rfl rfl _ rfl fun C hC hG => ?_
  refine .seq ?_
  refine .region rfl ?_
  refine .h (.box (.t rfl) fun b4 => .h (.box (.t rfl) fun b5 => .h (.alloc ty32 fun b8 => .p (.assign (.nilS (α := UInt8)) (.p (.assign (.i rfl) ?_))))))
  refine .nil ?_
  refine .seq ?_
  refine .seq ?_
  refine .frzOb hC (.s .z) ?_
  refine .asP 5 rfl (.s .z) ?_
  refine .region rfl ?_
  refine .p (.move (.t rfl) (.p (.lss (.t rfl) (.i rfl) (.p (.move (.t rfl) ?_)))))
  refine .go 18 rfl (.t rfl) (fun hg19 => .move (.t rfl) rfl) ?_
  refine .go 18 rfl (.t rfl) (fun hg20 => .gtr (.o rfl (beq_iff_eq.2 hg20)) (.i rfl) rfl) ?_
  refine .p (.pickOr (.t rfl) (fun hp => (.o rfl (beq_iff_eq.2 hp))) ?_)
  refine .nil ?_
  refine .cond (.t rfl) (fun hc21 => ?_) (fun hc21 => ?_)
  · refine .seq ?_
    refine .region rfl ?_
    refine .p (.bS0 (α := G_api_Algebra) rfl ty32 fo32 (.n (.stW ty32 (.t rfl) (.t rfl) .z (.p (.assign (.nilS (α := UInt8)) (.p (.assign (.i rfl) ?_)))))))
    refine .nil ?_
    refine .ret ?_
    refine ⟨_, .r3 rfl (.cell ty32 rfl .z) (.tmp rfl) (.tmp rfl), ?_⟩
    rw [algSeal_range hc21]
  · refine .skip ?_
    refine .seq ?_
    refine .seq ?_
    refine .region rfl ?_
    refine .p (.move (.t rfl) (.p (.len Tryd.underlying23 (.t rfl) (.p (.gtr (.t rfl) (.i rfl) ?_)))))
    refine .nil ?_
    refine .condP (.t rfl) (fun hc25 => ?_) (fun hc25 => ?_)
    · refine .seq ?_
      refine .region rfl ?_
      refine .p (.bS0 (α := G_api_Algebra) rfl ty32 fo32 (.n (.stW ty32 (.t rfl) (.t rfl) .z (.p (.assign (.nilS (α := UInt8)) (.p (.assign (.i rfl) ?_)))))))
      refine .nil ?_
      refine .ret ?_
      refine ⟨_, .r3 rfl (.cell ty32 rfl .z) (.tmp rfl) (.tmp rfl), ?_⟩
      rw [algSeal_long hc21 (by omega)]
    · refine .skip ?_
      refine .seq ?_
      refine .seq ?_
      refine .region rfl ?_
      refine .p (.assign (.i rfl) ?_)
      refine .nil ?_
      refine .block ?_
      refine .loopR (α := Nat) [(2, _), (3, _), (4, _), (5, _), (8, _)] (fun i R => (11, .v (i : Int)) :: R) (fun i => [(true, .ob (ptr b8 0) (default : Alg)), (true, .fz (ptr b5 0) (.p k)), (true, .ob (ptr b4 0) a)]) (fun i => i ≤ a.Boxes.length ∧ ∀ j (hj : j < a.Boxes.length), j < i → sealEq k n p a.Boxes[j] = false) (fun i => a.Boxes.length - i) (0) (.cons rfl (.cons rfl (.cons rfl (.cons rfl (.cons rfl (.nil _)))))) ?_ (.cons rfl (.cons rfl (.cons rfl (.cons rfl (.cons rfl (.cons rfl (.nil _))))))) (rfl) fun i hF => ?_
      · simp
      obtain ⟨h1, h2⟩ := hF
      refine .seq ?_
      refine .seq ?_
      refine .region rfl ?_
      refine .p (.move (.t rfl) (.p (.fldW G_api_Algebra.l4 fd32_4 rfl (.t rfl) (.p (.ldF (fun x => x.Boxes) ty30 (.t rfl) (.s (.s .z)) (fun _ => rfl) (.p (.len Tryd.underlying30 (.t rfl) (.p (.lss (.t rfl) (.t rfl) ?_)))))))))
      refine .nil ?_
      refine .condP (.t rfl) (fun hc31 => ?_) (fun hc31 => ?_)
      · refine .skip ?_
        refine .seq ?_
        refine .block ?_
        refine .seq ?_
        refine .lenLe 29 rfl fun hl29 => ?_
        refine .region rfl ?_
        refine .p (.fldW G_api_Algebra.l4 fd32_4 rfl (.t rfl) (.p (.ldF (fun x => x.Boxes) ty30 (.t rfl) (.s (.s .z)) (fun _ => rfl) (.p (.move (.t rfl) (.p (.idx ty56 Tryd.underlying30 (.t rfl) (.t rfl) (by first | omega | (simp; done) | (simp; omega) | (simp at *; omega)) (by first | omega | (simp; done) | (simp; omega) | (simp at *; omega)) (.p (.ldP ty56 (.t rfl) (.h (.alloc ty56 fun b12 => ?_)))))))))))
        refine .n (.stW ty56 (.t rfl) (.t rfl) .z ?_)
        refine .nil ?_
        refine .seq ?_
        refine .region rfl ?_
        refine .p (.fldW G_api_Sealed.l0 fd56_0 rfl (.t rfl) (.p (.ldF (fun x => x.Key) ty28 (.t rfl) .z (fun _ => rfl) (.p (.ldP ty28 (.t rfl) (.p (.eqlA8 Tryd.underlying28 sz5 Tryd.underlying5 gd28 (.t rfl) (.t rfl) (.p (.move (.t rfl) ?_)))))))))
        refine .go 43 rfl (.t rfl) (fun hg44 => .fldW G_api_Sealed.l1 fd56_1 rfl (.t rfl) rfl) ?_
        refine .go 43 rfl (.t rfl) (fun hg45 => .ldF (fun x => x.Nonce) ty3 (.o rfl (beq_iff_eq.2 hg45)) .z (fun _ => rfl) rfl) ?_
        refine .go 43 rfl (.t rfl) (fun hg46 => .move (.t rfl) rfl) ?_
        refine .go 43 rfl (.t rfl) (fun hg47 => .eqlI (.o rfl (beq_iff_eq.2 hg47)) (.o rfl (beq_iff_eq.2 hg47)) rfl) ?_
        refine .p (.pickAnd (.t rfl) (fun hp => (.o rfl (beq_iff_eq.2 hp))) (.p (.move (.t rfl) ?_)))
        refine .go 49 rfl (.t rfl) (fun hg50 => .fldW G_api_Sealed.l2 fd56_2 rfl (.t rfl) rfl) ?_
        refine .go 49 rfl (.t rfl) (fun hg51 => .ldF (fun x => x.Plain) ty23 (.o rfl (beq_iff_eq.2 hg51)) .z (fun _ => rfl) rfl) ?_
        refine .go 49 rfl (.t rfl) (fun hg52 => .move (.t rfl) rfl) ?_
        refine .go 49 rfl (.t rfl) (fun hg53 => .call1 hG (Same_c _ _) (.cons (.o rfl (beq_iff_eq.2 hg53)) (.cons (.o rfl (beq_iff_eq.2 hg53)) .nil)) rfl) ?_
        refine .p (.pickAnd (.t rfl) (fun hp => (.o rfl (beq_iff_eq.2 hp))) ?_)
        refine .nil ?_
        refine .cond (.t rfl) (fun hc54 => ?_) (fun hc54 => ?_)
        · refine .seq ?_
          have hb10 : ∀ h : (i : Int).toNat < a.Boxes.length, (a.Boxes[(i : Int).toNat]'h).Box.length ≤ 1000000 := fun h => hb _ (List.getElem_mem h)
          have hb11 := hb10 (by omega)
          refine .draw (by kernel_rfl) 5 [[], [], [], [(57, 2)], [(56, 1), (58, 3)]] rfl (by kernel_rfl) rfl ?_
          refine ⟨_, OpP.ldW ty32 (.t rfl) (.s (.s (.s .z))) rfl, ?_⟩
          refine ⟨_, OpP.buildSliceF (α := UInt8) ty5 Tryd.underlying23 .nil rfl (by decide) rfl, ?_⟩
          refine ⟨_, OpP.fldW G_api_Sealed.l3 fd56_3 rfl (.t rfl) rfl, ?_⟩
          refine ⟨_, OpP.ldF (fun x => x.Box) ty23 (.t rfl) .z (fun _ => rfl) rfl, ?_⟩
          refine ⟨_, OpP.appendC st23 (.inl ⟨_, Tryd.underlying23⟩) (.t rfl) (.v (.t rfl)) (by first | omega | (simp; done) | (simp; omega) | (simp at *; omega)) (by first | omega | (simp; done) | (simp; omega) | (simp at *; omega)) rfl, ?_⟩
          show wpB _ _ _ _ _ _ ((59, _) :: (58, _) :: (57, _) :: (56, _) :: (55, _) :: _) _
          refine .n (.stW ty32 (.t rfl) (.t rfl) (.s .z) (.p (.assign (.t rfl) (.p (.assign (.i rfl) ?_)))))
          refine .nil ?_
          refine .ret ?_
          refine ⟨_, .r3 rfl (.cell ty32 rfl (.s .z)) (.tmp rfl) (.tmp rfl), ?_⟩
          rw [algSeal_found hc21 (by omega) (findS_some (k := i) (by omega) hc54 h2)]; rfl
        · refine .skip ?_
          refine .drop ?_
          refine .region rfl ?_
          refine .p (.move (.t rfl) (.p (.add (.t rfl) (.i rfl) (by first | omega | (simp; done) | (simp; omega) | (simp at *; omega)) (by first | omega | (simp; done) | (simp; omega) | (simp at *; omega)) (.p (.assign (.t rfl) ?_)))))
          refine .nil ?_
          refine ⟨i + 1, .cons rfl (.cons rfl (.cons rfl (.cons rfl (.cons rfl (.cons rfl (.nil _)))))), rfl, ?_, by omega⟩
          refine ⟨by omega, fun j hj hji => ?_⟩; rcases Nat.lt_or_ge j i with h | h; exact h2 j hj h; (obtain rfl : j = i := by omega); exact hc54
      · refine .exit ?_
        refine .seq ?_
        refine .seq ?_
        refine .region rfl ?_
        refine .p (.fldW G_api_Algebra.l4 fd32_4 rfl (.t rfl) (.p (.ldF (fun x => x.Boxes) ty30 (.t rfl) (.s (.s .z)) (fun _ => rfl) (.p (.len Tryd.underlying30 (.t rfl) (.p (.geq (.t rfl) (.i rfl) ?_)))))))
        refine .nil ?_
        refine .condP (.t rfl) (fun hc63 => ?_) (fun hc63 => ?_)
        · refine .seq ?_
          refine .region rfl ?_
          refine .p (.bS0 (α := G_api_Algebra) rfl ty32 fo32 (.n (.stW ty32 (.t rfl) (.t rfl) .z (.p (.assign (.nilS (α := UInt8)) (.p (.assign (.i rfl) ?_)))))))
          refine .nil ?_
          refine .ret ?_
          refine ⟨_, .r3 rfl (.cell ty32 rfl .z) (.tmp rfl) (.tmp rfl), ?_⟩
          rw [algSeal_full hc21 (by omega) (findS_none fun j hj => h2 j hj (by omega)) (by omega)]
        · refine .skip ?_
          refine .seq ?_
          refine .region rfl ?_
          refine .p (.assign (.nilS (α := UInt8)) ?_)
          refine .nil ?_
          refine .seq ?_
          refine .seq ?_
          refine .region rfl ?_
          refine .p (.fldW G_api_Algebra.l0 fd32_0 rfl (.t rfl) (.p (.ldF (fun x => x.Free) ty4 (.t rfl) (.s (.s .z)) (fun _ => rfl) ?_)))
          refine .nil ?_
          refine .cond (.t rfl) (fun hc66 => ?_) (fun hc66 => ?_)
          · refine .seq ?_
            refine .region rfl ?_
            refine .p (.fldW G_api_Algebra.l4 fd32_4 rfl (.t rfl) (.p (.ldF (fun x => x.Boxes) ty30 (.t rfl) (.s (.s .z)) (fun _ => rfl) (.p (.len Tryd.underlying30 (.t rfl) (.p (.add (.t rfl) (.i rfl) (by first | omega | (simp; done) | (simp; omega) | (simp at *; omega)) (by first | omega | (simp; done) | (simp; omega) | (simp at *; omega)) (.p (.call1 hG (rSymbol_c _ _) (.cons (.u8 98 rfl) (.cons (.t rfl) .nil)) (.h (.alloc ty28 fun b14 => ?_)))))))))))
            refine .n (.stW ty28 (.t rfl) (.t rfl) .z ?_)
            refine .nil ?_
            refine .frzOb hC .z ?_
            refine .asP 14 rfl .z ?_
            refine .region rfl ?_
            refine .p (.slArrPC (by decide) ar28 (.t rfl) (.p (.move (.t rfl) (.p (.len Tryd.underlying23 (.t rfl) (.p (.add (.t rfl) (.i rfl) (by first | omega | (simp; done) | (simp; omega) | (simp at *; omega)) (by first | omega | (simp; done) | (simp; omega) | (simp at *; omega)) (.p (.appendZC Tryd.underlying23 one5 rfl rfl rfl (fun _ => rfl) Tryd.underlying3 (.t rfl) (.t rfl) (by first | omega | (simp; done) | (simp; omega) | (simp at *; omega)) (by first | omega | (simp; done) | (simp; omega) | (simp at *; omega)) (by first | omega | (simp; done) | (simp; omega) | (simp at *; omega)) (.p (.assign (.t rfl) ?_)))))))))))
            refine .nil ?_
            refine .seq ?_
            refine .drawCF [false, false, false, false] (by kernel_rfl) 14 [[], [], [(94, 1)], [(93, 0), (95, 2)], [], [], [], [], [(99, 6), (100, 7)], [], [(97, 4), (98, 5), (101, 8), (102, 9)], [(103, 10)], [(96, 3), (104, 11)], []] [0, 3, 12] rfl (by kernel_rfl) rfl (by kernel_rfl) (by decide) ?_
            refine .inl ?_
            refine ⟨_, fun H => OpP.fldW G_api_Algebra.l4 fd32_4 rfl (.t rfl) rfl, ?_⟩
            refine ⟨_, fun H => OpP.ldF (fun x => x.Boxes) ty30 (.t rfl) (Hole.app (.s (.s (.s .z)))) (fun _ => rfl) rfl, ?_⟩
            refine .inl ?_
            refine ⟨_, fun H => OpP.ldP ty28 (.t rfl) rfl, ?_⟩
            refine ⟨_, fun H => OpP.move (.t rfl) rfl, ?_⟩
            refine ⟨_, fun H => OpP.buildSliceF (α := UInt8) ty5 Tryd.underlying23 .nil rfl (by decide) rfl, ?_⟩
            refine ⟨_, fun H => OpP.move (.t rfl) rfl, ?_⟩
            refine ⟨_, fun H => OpP.appendC st23 (.inl ⟨_, Tryd.underlying23⟩) (.t rfl) (.v (.t rfl)) (by first | omega | (simp; done) | (simp; omega) | (simp at *; omega)) (by first | omega | (simp; done) | (simp; omega) | (simp at *; omega)) rfl, ?_⟩
            refine ⟨_, fun H => OpP.move (.t rfl) rfl, ?_⟩
            refine ⟨_, fun H => OpP.bS4 G_api_Sealed.l0 G_api_Sealed.l1 G_api_Sealed.l2 G_api_Sealed.l3 rfl ty56 fo56 (fun c0 c1 c2 c3 => (⟨c0, c1, c2, c3⟩ : G_api_Sealed)) (fun _ _ _ _ => rfl) rfl rfl rfl rfl rfl (.t rfl) (.t rfl) (.t rfl) (.t rfl) rfl, ?_⟩
            refine ⟨_, fun H => OpP.buildSliceF (α := G_api_Sealed) ty56 Tryd.underlying30 (.cons (.t rfl) .nil) rfl (by decide) rfl, ?_⟩
            refine .inl ?_
            refine ⟨_, fun H => OpP.fldW G_api_Algebra.l4 fd32_4 rfl (.t rfl) rfl, ?_⟩
            refine ⟨⟨([], fun k => List.getD [(true, .none_), (true, .none_), (true, .none_), (true, .none_)] k (true, .none_)), rfl⟩, ?_⟩
            refine OpH.buildSlice (α := G_api_Sealed) ty56 Tryd.underlying30 .nil rfl (by decide) fun b93 => ?_
            refine ⟨⟨([_], fun k => List.getD [(true, .none_), (true, .none_), (true, .none_), (true, .none_)] k (true, .none_)), rfl⟩, ?_⟩
            refine OpH.append st30 (.inl ⟨_, Tryd.underlying30⟩) rfl .z (.v (.t rfl)) (by first | omega | (simp; done) | (simp; omega) | (simp at *; omega)) (by first | omega | (simp; done) | (simp; omega) | (simp at *; omega)) (fun w96 => ?_) rfl
            refine ⟨⟨([_], fun k => List.getD [(true, .none_), (true, .none_), (true, .none_), (true, .none_)] k (true, .none_)), rfl⟩, ?_⟩
            refine OpH.append st30 (.inl ⟨_, Tryd.underlying30⟩) rfl .z (.v (.c rfl)) (by first | omega | (simp; done) | (simp; omega) | (simp at *; omega)) (by first | omega | (simp; done) | (simp; omega) | (simp at *; omega)) (fun w105 => ?_) rfl
            refine ⟨⟨([_], fun k => List.getD [(true, .none_), (true, .none_), (true, .none_), (true, .none_)] k (true, .none_)), rfl⟩, ?_⟩
            show wpB _ _ _ _ _ _ ((106, _) :: (105, _) :: (104, _) :: (103, _) :: (102, _) :: (101, _) :: (100, _) :: (99, _) :: (98, _) :: (97, _) :: (96, _) :: (95, _) :: (94, _) :: (93, _) :: _) _
            refine .frzOwn hC .z ?_
            refine .as 105 rfl .z ?_
            refine .n (.stF (fun y x => { x with Boxes := y }) ty30 (.t rfl) (.t rfl) (.s (.s (.s (.s .z)))) (fun _ _ => rfl) ?_)
            refine .nil ?_
            refine .seq ?_
            refine .draw (by kernel_rfl) 4 [[], [], [], [(108, 1), (109, 2)]] rfl (by kernel_rfl) rfl ?_
            refine ⟨_, OpP.ldW ty32 (.t rfl) (.s (.s (.s (.s .z)))) rfl, ?_⟩
            refine ⟨_, OpP.buildSliceF (α := UInt8) ty5 Tryd.underlying23 .nil rfl (by decide) rfl, ?_⟩
            refine ⟨_, OpP.move (.t rfl) rfl, ?_⟩
            refine ⟨_, OpP.appendC st23 (.inl ⟨_, Tryd.underlying23⟩) (.t rfl) (.v (.t rfl)) (by first | omega | (simp; done) | (simp; omega) | (simp at *; omega)) (by first | omega | (simp; done) | (simp; omega) | (simp at *; omega)) rfl, ?_⟩
            show wpB _ _ _ _ _ _ ((110, _) :: (109, _) :: (108, _) :: (107, _) :: _) _
            refine .n (.stW ty32 (.t rfl) (.t rfl) (.s (.s .z)) (.p (.assign (.t rfl) (.p (.assign (.i rfl) ?_)))))
            refine .nil ?_
            refine .ret ?_
            refine ⟨_, .r3 rfl (.cell ty32 rfl (.s (.s .z))) (.tmp rfl) (.tmp rfl), ?_⟩
            rw [algSeal_new hc21 (by omega) (findS_none fun j hj => h2 j hj (by omega)) (by omega), newBox_free hc66]; rfl
          · refine .seq ?_
            have hb17 := be64_length (UInt64.ofInt n) 8
            have hb18 := streamL_length k (UInt64.ofInt n) p p.length
            refine .drawC (by kernel_rfl) 10 [[], [(77, 0)], [(78, 1)], [], [], [(81, 4)], [], [(80, 3), (82, 5), (83, 6)], [(79, 2), (84, 7)], [(85, 8)]] [2, 8, 9] rfl (by kernel_rfl) rfl (by kernel_rfl) (by decide) ?_
            refine ⟨_, fun H => OpP.move (.t rfl) rfl, ?_⟩
            refine ⟨_, fun H => OpP.conv64 Tryd.underlying3 Tryd.underlying90 (.t rfl) rfl, ?_⟩
            refine .inl ?_
            refine ⟨_, fun H => OpP.ldP ty28 (.t rfl) rfl, ?_⟩
            refine ⟨_, fun H => OpP.move (.t rfl) rfl, ?_⟩
            refine ⟨_, fun H => OpP.conv64 Tryd.underlying3 Tryd.underlying90 (.t rfl) rfl, ?_⟩
            refine ⟨_, fun H => OpP.move (.t rfl) rfl, ?_⟩
            refine ⟨_, fun H => OpP.call1 hG (rStream_c _ _ _ (by first | omega | (simp; done) | (simp; omega) | (simp at *; omega))) (.cons (.t rfl) (.cons (.t rfl) (.cons (.t rfl) .nil))) rfl, ?_⟩
            refine .inl ?_
            refine .inl ?_
            refine OpH.call0 hG (eightOwn_c _) (.cons (.t rfl) .nil) fun r79 Hs79 hr79 => ?_
            obtain ⟨u79, rfl, rfl⟩ := hr79
            refine OpH.append st23 (.inl ⟨_, Tryd.underlying23⟩) rfl .z (.v (.t rfl)) (by first | omega | (simp; done) | (simp; omega) | (simp at *; omega)) (by first | omega | (simp; done) | (simp; omega) | (simp at *; omega)) (fun w85 => ?_) rfl
            refine OpH.ofP (OpP.assign (.t rfl) ?_)
            show wpB _ _ _ _ _ _ ((13, _) :: (85, _) :: (84, _) :: (83, _) :: (82, _) :: (81, _) :: (80, _) :: (79, _) :: (78, _) :: (77, _) :: _) _
            refine .nil ?_
            refine .seq ?_
            refine .drawZ [[false, false, false, false], [true, false, false, false], [true, false, false, false]] [[true, false, false, false], [false, false, false, false], [], [], []] [] [(4, (⟨(Arr 32 UInt8), inferInstance, default⟩ : AT))] 2 (by kernel_rfl) 5 [[], [], [(87, 1)], [(86, 0), (88, 2)], []] [2, 3] rfl (by kernel_rfl) rfl (by kernel_rfl) rfl (by decide) (by simp) (List.forall_mem_cons.2 ⟨fun o ho => by obtain rfl := Option.some.inj (show some _ = some o from ho); exact ⟨rfl, fun _ _ => OpH.alloc ty28 fun b => ⟨b, rfl, rfl⟩⟩, (fun p hp => by cases hp)⟩) (by kernel_rfl) rfl ?_
            refine ⟨_, fun H => OpP.slArrP (by decide) ar28 (.t rfl) rfl, ?_⟩
            refine ⟨_, fun H => OpP.move (.t rfl) rfl, ?_⟩
            refine .inl ?_
            refine .inl ?_
            refine .inl ?_
            refine ⟨rfl, ?_⟩
            refine ⟨⟨fun k => List.getD [(true, .none_), (true, .none_), (true, .none_), (true, .none_)] k (true, .none_), rfl⟩, fun Ys18 => ?_⟩
            refine OpH.lend0 hG (wordOwn_c _ _ (by first | omega | (simp; done) | (simp; omega) | (simp at *; omega)) (by first | omega | (simp; done) | (simp; omega) | (simp at *; omega))) (.cons (.e (.s [98, 111, 120] (by decide) (by decide))) (.cons (.own rfl (Hole.app (Hole.app .z))) .nil)) (by rintro _ _ ⟨u, rfl, rfl⟩; exact .own) fun r88 Hs88 hr88 => ?_
            obtain ⟨u88, rfl, rfl⟩ := hr88
            refine ⟨[_], _, rfl, ?_⟩
            refine ⟨⟨fun k => List.getD [_, (true, .none_), (true, .none_), (true, .none_)] k (true, .none_), rfl⟩, fun Ys18 => ?_⟩
            refine OpH.ofP (OpP.lend1 hG (rHmac_c _ _ (by first | omega | (simp; done) | (simp; omega) | (simp at *; omega)) (by first | omega | (simp; done) | (simp; omega) | (simp at *; omega))) (.cons (.e (.t rfl)) (.cons (.own rfl .z) .nil)) (by first | exact .v | exact .t2 .v .v | exact .t3 .v .v .v) ?_)
            refine ⟨[_], _, rfl, ?_⟩
            refine ⟨⟨fun k => List.getD [_, (true, .none_), (true, .none_), (true, .none_)] k (true, .none_), rfl⟩, fun ws18 => ?_⟩
            refine ⟨⟨fun k => List.getD [_, (true, .none_), (true, .none_), (true, .none_)] k (true, .none_), rfl⟩, fun _ => ?_⟩
            show wpB _ _ _ _ _ _ ((15, _) :: (89, _) :: (88, _) :: (87, _) :: (86, _) :: _) _
            refine .n (.stW ty28 (.t rfl) (.t rfl) (.s .z) ?_)
            refine .nil ?_
            refine .frzOb hC (.s .z) ?_
            refine .asP 15 rfl (.s .z) ?_
            refine .region rfl ?_
            refine .p (.move (.t rfl) (.p (.slArrP (by decide) ar28 (.t rfl) (.h (.append st23 (.inl ⟨_, Tryd.underlying23⟩) rfl (.s (.s .z)) (.v (.t rfl)) (by first | omega | (simp; done) | (simp; omega) | (simp at *; omega)) (by first | omega | (simp; done) | (simp; omega) | (simp at *; omega)) (fun w92 => .p (.assign (.t rfl) ?_)) rfl)))))
            refine .nil ?_
            refine .seq ?_
            refine .frzOwn hC (.s (.s .z)) ?_
            refine .as 13 rfl (.s (.s .z)) ?_
            refine .drawCF [false, false, false, false, false, false] (by kernel_rfl) 14 [[], [], [(94, 1)], [(93, 0), (95, 2)], [], [], [], [], [(99, 6), (100, 7)], [], [(97, 4), (98, 5), (101, 8), (102, 9)], [(103, 10)], [(96, 3), (104, 11)], []] [0, 3, 12] rfl (by kernel_rfl) rfl (by kernel_rfl) (by decide) ?_
            refine .inl ?_
            refine ⟨_, fun H => OpP.fldW G_api_Algebra.l4 fd32_4 rfl (.t rfl) rfl, ?_⟩
            refine ⟨_, fun H => OpP.ldF (fun x => x.Boxes) ty30 (.t rfl) (Hole.app (.s (.s (.s (.s (.s .z)))))) (fun _ => rfl) rfl, ?_⟩
            refine .inl ?_
            refine ⟨_, fun H => OpP.ldP ty28 (.t rfl) rfl, ?_⟩
            refine ⟨_, fun H => OpP.move (.t rfl) rfl, ?_⟩
            refine ⟨_, fun H => OpP.buildSliceF (α := UInt8) ty5 Tryd.underlying23 .nil rfl (by decide) rfl, ?_⟩
            refine ⟨_, fun H => OpP.move (.t rfl) rfl, ?_⟩
            refine ⟨_, fun H => OpP.appendC st23 (.inl ⟨_, Tryd.underlying23⟩) (.t rfl) (.v (.t rfl)) (by first | omega | (simp; done) | (simp; omega) | (simp at *; omega)) (by first | omega | (simp; done) | (simp; omega) | (simp at *; omega)) rfl, ?_⟩
            refine ⟨_, fun H => OpP.move (.t rfl) rfl, ?_⟩
            refine ⟨_, fun H => OpP.bS4 G_api_Sealed.l0 G_api_Sealed.l1 G_api_Sealed.l2 G_api_Sealed.l3 rfl ty56 fo56 (fun c0 c1 c2 c3 => (⟨c0, c1, c2, c3⟩ : G_api_Sealed)) (fun _ _ _ _ => rfl) rfl rfl rfl rfl rfl (.t rfl) (.t rfl) (.t rfl) (.t rfl) rfl, ?_⟩
            refine ⟨_, fun H => OpP.buildSliceF (α := G_api_Sealed) ty56 Tryd.underlying30 (.cons (.t rfl) .nil) rfl (by decide) rfl, ?_⟩
            refine .inl ?_
            refine ⟨_, fun H => OpP.fldW G_api_Algebra.l4 fd32_4 rfl (.t rfl) rfl, ?_⟩
            refine ⟨⟨([], fun k => List.getD [(true, .none_), (true, .none_), (true, .none_), (true, .none_), (true, .none_), (true, .none_)] k (true, .none_)), rfl⟩, ?_⟩
            refine OpH.buildSlice (α := G_api_Sealed) ty56 Tryd.underlying30 .nil rfl (by decide) fun b93 => ?_
            refine ⟨⟨([_], fun k => List.getD [(true, .none_), (true, .none_), (true, .none_), (true, .none_), (true, .none_), (true, .none_)] k (true, .none_)), rfl⟩, ?_⟩
            refine OpH.append st30 (.inl ⟨_, Tryd.underlying30⟩) rfl .z (.v (.t rfl)) (by first | omega | (simp; done) | (simp; omega) | (simp at *; omega)) (by first | omega | (simp; done) | (simp; omega) | (simp at *; omega)) (fun w96 => ?_) rfl
            refine ⟨⟨([_], fun k => List.getD [(true, .none_), (true, .none_), (true, .none_), (true, .none_), (true, .none_), (true, .none_)] k (true, .none_)), rfl⟩, ?_⟩
            refine OpH.append st30 (.inl ⟨_, Tryd.underlying30⟩) rfl .z (.v (.c rfl)) (by first | omega | (simp; done) | (simp; omega) | (simp at *; omega)) (by first | omega | (simp; done) | (simp; omega) | (simp at *; omega)) (fun w105 => ?_) rfl
            refine ⟨⟨([_], fun k => List.getD [(true, .none_), (true, .none_), (true, .none_), (true, .none_), (true, .none_), (true, .none_)] k (true, .none_)), rfl⟩, ?_⟩
            show wpB _ _ _ _ _ _ ((106, _) :: (105, _) :: (104, _) :: (103, _) :: (102, _) :: (101, _) :: (100, _) :: (99, _) :: (98, _) :: (97, _) :: (96, _) :: (95, _) :: (94, _) :: (93, _) :: _) _
            refine .frzOwn hC .z ?_
            refine .as 105 rfl .z ?_
            refine .n (.stF (fun y x => { x with Boxes := y }) ty30 (.t rfl) (.t rfl) (.s (.s (.s (.s (.s (.s .z)))))) (fun _ _ => rfl) ?_)
            refine .nil ?_
            refine .seq ?_
            refine .draw (by kernel_rfl) 4 [[], [], [], [(108, 1), (109, 2)]] rfl (by kernel_rfl) rfl ?_
            refine ⟨_, OpP.ldW ty32 (.t rfl) (.s (.s (.s (.s (.s (.s .z)))))) rfl, ?_⟩
            refine ⟨_, OpP.buildSliceF (α := UInt8) ty5 Tryd.underlying23 .nil rfl (by decide) rfl, ?_⟩
            refine ⟨_, OpP.move (.t rfl) rfl, ?_⟩
            refine ⟨_, OpP.appendC st23 (.inl ⟨_, Tryd.underlying23⟩) (.t rfl) (.v (.t rfl)) (by first | omega | (simp; done) | (simp; omega) | (simp at *; omega)) (by first | omega | (simp; done) | (simp; omega) | (simp at *; omega)) rfl, ?_⟩
            show wpB _ _ _ _ _ _ ((110, _) :: (109, _) :: (108, _) :: (107, _) :: _) _
            refine .n (.stW ty32 (.t rfl) (.t rfl) (.s (.s (.s (.s .z)))) (.p (.assign (.t rfl) (.p (.assign (.i rfl) ?_)))))
            refine .nil ?_
            refine .ret ?_
            refine ⟨_, .r3 rfl (.cell ty32 rfl (.s (.s (.s (.s .z))))) (.tmp rfl) (.tmp rfl), ?_⟩
            rw [algSeal_new hc21 (by omega) (findS_none fun j hj => h2 j hj (by omega)) (by omega), newBox_real hc66]; rfl
end Go.Proofs.YtiekhjbhlekaeaaDoor
set_option maxRecDepth 1000000
set_option linter.unusedVariables false
set_option linter.unusedSimpArgs false
namespace Go.Proofs.YtiekhjbhlekaeaaDoor
open Go.Fl Go.Ab Go.Mac Go.Sha
structure G_api_AlgebraR where
  Free : Bool
  Seed : (Arr 32 UInt8)
  Fresh : Int
  Macs : SlRaw
  Boxes : SlRaw
def G_api_AlgebraR.f (x : G_api_AlgebraR) : Bool × (Arr 32 UInt8) × Int × SlRaw × SlRaw × Unit := (x.Free, x.Seed, x.Fresh, x.Macs, x.Boxes, ())
instance : Inhabited G_api_AlgebraR := ⟨⟨default, default, default, default, default⟩⟩
instance : Rep G_api_AlgebraR := Rep.via G_api_AlgebraR.f
instance : RepZ G_api_AlgebraR := RepZ.via G_api_AlgebraR.f rfl
def G_api_AlgebraR.l0 : Lens G_api_AlgebraR Bool := Lens.via G_api_AlgebraR.f Lens.fst (fun x => x.Free) (fun y x => { x with Free := y }) (fun _ => rfl) (fun _ _ => rfl)
def G_api_AlgebraR.l3 : Lens G_api_AlgebraR SlRaw := Lens.via G_api_AlgebraR.f (Lens.snd.comp (Lens.snd.comp (Lens.snd.comp Lens.fst))) (fun x => x.Macs) (fun y x => { x with Macs := y }) (fun _ => rfl) (fun _ _ => rfl)
def G_api_AlgebraR.l4 : Lens G_api_AlgebraR SlRaw := Lens.via G_api_AlgebraR.f (Lens.snd.comp (Lens.snd.comp (Lens.snd.comp (Lens.snd.comp Lens.fst)))) (fun x => x.Boxes) (fun y x => { x with Boxes := y }) (fun _ => rfl) (fun _ _ => rfl)
structure G_algebra_MakerR where
  a : G_api_AlgebraR
  e : Int
def G_algebra_MakerR.f (x : G_algebra_MakerR) : G_api_AlgebraR × Int × Unit := (x.a, x.e, ())
instance : Inhabited G_algebra_MakerR := ⟨⟨default, default⟩⟩
instance : Rep G_algebra_MakerR := Rep.via G_algebra_MakerR.f
instance : RepZ G_algebra_MakerR := RepZ.via G_algebra_MakerR.f rfl
def G_algebra_MakerR.l0 : Lens G_algebra_MakerR G_api_AlgebraR := Lens.via G_algebra_MakerR.f Lens.fst (fun x => x.a) (fun y x => { x with a := y }) (fun _ => rfl) (fun _ _ => rfl)
def G_algebra_MakerR.l1 : Lens G_algebra_MakerR Int := Lens.via G_algebra_MakerR.f (Lens.snd.comp Lens.fst) (fun x => x.e) (fun y x => { x with e := y }) (fun _ => rfl) (fun _ _ => rfl)
theorem tyR29 : TyIs Tryd.prog 29 SlRaw := .of (by kernel_rfl) (by kernel_rfl) (by kernel_rfl) (by decide)
theorem tyR30 : TyIs Tryd.prog 30 SlRaw := .of (by kernel_rfl) (by kernel_rfl) (by kernel_rfl) (by decide)
theorem tyR32 : TyIs Tryd.prog 32 G_api_AlgebraR := .of (by kernel_rfl) (by kernel_rfl) (by kernel_rfl) (by decide)
theorem tyR105 : TyIs Tryd.prog 105 G_algebra_MakerR := .of (by kernel_rfl) (by kernel_rfl) (by kernel_rfl) (by decide)
def rawAlg (a : Alg) (um ub : Value) : G_api_AlgebraR := ⟨a.Free, a.Seed, a.Fresh, ⟨um⟩, ⟨ub⟩⟩
def rawMk (a : Alg) (e : Int) (um ub : Value) : G_algebra_MakerR := ⟨rawAlg a um ub, e⟩
theorem rawAlg_of (a : Alg) (I : Im) (u : Value) (h : RepV I (.v a) u) : ∃ x y, RepV I (.v (rawAlg a x y)) u ∧ RepV I (.v a.Macs) x ∧ RepV I (.v a.Boxes) y := by
  obtain ⟨cs, ⟨c1, r1, rfl, h1, c2, r2, rfl, h2, c3, r3, rfl, h3, c4, r4, rfl, h4, c5, r5, rfl, h5, h6⟩, rfl⟩ := h
  obtain ⟨v4, rfl, h4⟩ := h4
  obtain ⟨v5, rfl, h5⟩ := h5
  have o4 : v4.oneCell' = true := by obtain ⟨xs, ⟨a, c, rfl, _⟩, _⟩ := h4; rfl
  have o5 : v5.oneCell' = true := by obtain ⟨xs, ⟨a, c, rfl, _⟩, _⟩ := h5; rfl
  exact ⟨v4, v5, ⟨_, ⟨c1, _, rfl, h1, c2, _, rfl, h2, c3, _, rfl, h3, _, _, rfl, ⟨rfl, o4⟩, _, _, rfl, ⟨rfl, o5⟩, h6⟩, rfl⟩, ⟨_, ⟨v4, rfl, h4⟩, rfl⟩, ⟨_, ⟨v5, rfl, h5⟩, rfl⟩⟩
theorem rawAlg_to (a : Alg) (x y : Value) (I : Im) (u : Value) (h : RepV I (.v (rawAlg a x y)) u) (h4 : RepV I (.v a.Macs) x) (h5 : RepV I (.v a.Boxes) y) : RepV I (.v a) u := by
  obtain ⟨cs, ⟨c1, r1, rfl, h1, c2, r2, rfl, h2, c3, r3, rfl, h3, c4, r4, rfl, ⟨rfl, _⟩, c5, r5, rfl, ⟨rfl, _⟩, h6⟩, rfl⟩ := h
  obtain ⟨_, ⟨v4, rfl, h4⟩, rfl⟩ := h4
  obtain ⟨_, ⟨v5, rfl, h5⟩, rfl⟩ := h5
  exact ⟨_, ⟨c1, _, rfl, h1, c2, _, rfl, h2, c3, _, rfl, h3, _, _, rfl, ⟨_, rfl, h4⟩, _, _, rfl, ⟨_, rfl, h5⟩, h6⟩, rfl⟩
abbrev gsM (u : Value) (a : Alg) : Blk := .usr u (GS.mk 38 a.Macs)
abbrev gsB (u : Value) (a : Alg) : Blk := .usr u (GS.mk 56 a.Boxes)
abbrev mp (w : Value) : AV := .ln w (Lens.id (α := G_algebra_MakerR))
structure MkU where
  a : Alg
  e : Int
  um : Value
  ub : Value
def MkU.bs (w : Value) (x : MkU) : List Blk := [.ob w (rawMk x.a x.e x.um x.ub), gsM x.um x.a, gsB x.ub x.a]
theorem repK.mono {I J : Im} (hle : Le I J) : ∀ {Hs : List Blk} {L : Lh}, repK I Hs L → repK J Hs L
  | [], _, h => h
  | B :: Hs, _, h => by obtain ⟨X, R, h1, h2, h3⟩ := h; exact ⟨X, R, h1, Blk.mono hle h2, repK.mono hle h3⟩
instance : UB MkU where
  ub I w x X := ∃ L, X = L.flatten ∧ repK I (x.bs w) L
  mono hle h := by obtain ⟨L, h1, h2⟩ := h; exact ⟨L, h1, repK.mono hle h2⟩
theorem FunH.mk {G : Gl} {P : Program} {f : FuncId} {ag : List AV} {w : Value} {x : MkU} {post : AV → MkU → Prop} (h : FunH G P f ag (x.bs w) (fun r Hs => ∃ x', Hs = x'.bs w ∧ post r x')) :
    FunH G P f ag [.usr w x] (fun r Hs => ∃ x', Hs = [.usr w x'] ∧ post r x') := by
  refine .regroup fun I L vs hvs hL => ?_
  obtain ⟨X, R, rfl, ⟨L0, rfl, h1⟩, h2⟩ := hL
  obtain rfl : R = [] := h2
  refine ⟨ag, x.bs w, L0, by simp, hvs, h1, fun I L vs hG hvs hL => ?_⟩
  have hM := h I L vs hG hvs hL
  refine ⟨hM.ok, fun w0 hm => (hM.run w0 hm).mono ?_⟩
  rintro e w' ⟨v, J, L', rfl, q1, q2, q3, q4, q5, r, Hs, q6, q7, x', rfl, q8⟩
  exact ⟨v, J, L', rfl, q1, q2, q3, q4, q5, r, _, q6, q7, fun J' L1 h3 => ⟨[.usr w x'], [L1.flatten], by simp, ⟨_, [], rfl, ⟨L1, rfl, h3⟩, rfl⟩, x', rfl, q8⟩⟩
theorem FunH.mkNew {G : Gl} {P : Program} {f : FuncId} {ag : List AV} {post : AV → Value → MkU → Prop} (h : FunH G P f ag [] (fun r Hs => ∃ w x', Hs = MkU.bs w x' ∧ post r w x')) :
    FunH G P f ag [] (fun r Hs => ∃ w x', Hs = [.usr w x'] ∧ post r w x') := by
  refine .regroup fun I L vs hvs hL => ⟨ag, [], L, rfl, hvs, hL, fun I L vs hG hvs hL => ?_⟩
  have hM := h I L vs hG hvs hL
  refine ⟨hM.ok, fun w0 hm => (hM.run w0 hm).mono ?_⟩
  rintro e w' ⟨v, J, L', rfl, q1, q2, q3, q4, q5, r, Hs, q6, q7, w, x', rfl, q8⟩
  exact ⟨v, J, L', rfl, q1, q2, q3, q4, q5, r, _, q6, q7, fun J' L1 h3 => ⟨[.usr w x'], [L1.flatten], by simp, ⟨_, [], rfl, ⟨L1, rfl, h3⟩, rfl⟩, w, x', rfl, q8⟩⟩
theorem Begin_c (a : Alg) : FunH gl Tryd.prog 53 [.v a] [] (fun r Hs => ∃ w, ∃ x : MkU, Hs = [.usr w x] ∧ r = mp w ∧ x.a = a ∧ x.e = 0) := by
  refine FunH.mkNew (post := fun r w x => r = mp w ∧ x.a = a ∧ x.e = 0) ?_
  refine FunH.introS Tryd.func53 rfl (by kernel_rfl) 14 rfl rfl _ rfl _ rfl fun C hC hG => ?_
  refine .seq ?_
  refine .name2 0 (fun um ub => .v (rawAlg a um ub)) (rawAlg_of a) rfl fun um ub => ?_
  refine .region rfl ?_
  refine .h (.box (.t rfl) fun b1 => .p (.assign .raw ?_))
  refine .nil ?_
  refine .seq ?_
  refine .drawCF [false, false, false] (by kernel_rfl) 7 [[], [(3, 0)], [(4, 1)], [], [(6, 3)], [(7, 4)], []] [2, 5] rfl (by kernel_rfl) rfl (by kernel_rfl) (by decide) ?_
  refine ⟨_, fun H => OpP.fldW G_api_AlgebraR.l3 fd32_3 rfl (.t rfl) rfl, ?_⟩
  refine ⟨_, fun H => OpP.ldR (fun x => x.Macs) tyR29 (.t rfl) (Hole.app .z) (fun _ => rfl) rfl, ?_⟩
  refine .inl ?_
  refine ⟨_, fun H => OpP.fldW G_api_AlgebraR.l4 fd32_4 rfl (.t rfl) rfl, ?_⟩
  refine ⟨_, fun H => OpP.ldR (fun x => x.Boxes) tyR30 (.t rfl) (Hole.app .z) (fun _ => rfl) rfl, ?_⟩
  refine .inl ?_
  refine ⟨_, fun H => OpP.fldW G_api_AlgebraR.l3 fd32_3 rfl (.t rfl) rfl, ?_⟩
  refine ⟨⟨([], fun k => List.getD [(true, .none_), (true, .none_), (true, .none_)] k (true, .none_)), rfl⟩, ?_⟩
  refine OpH.call0 hG (FunA.gs 38 (clipMac_c _)) (.cons (.fzA rfl (.s .z)) .nil) fun r5 Hs5 hr5 => ?_
  obtain ⟨u5, rfl, rfl⟩ := hr5
  refine ⟨⟨([_], fun k => List.getD [(true, .none_), (true, .none_), (true, .none_)] k (true, .none_)), rfl⟩, ?_⟩
  refine OpH.call0 hG (FunA.gs 56 (clipSealed_c _)) (.cons (.fzA rfl (.s (.s (.s .z)))) .nil) fun r8 Hs8 hr8 => ?_
  obtain ⟨u8, rfl, rfl⟩ := hr8
  refine ⟨⟨([_, _], fun k => List.getD [(true, .none_), (true, .none_), (true, .none_)] k (true, .none_)), rfl⟩, ?_⟩
  show wpB _ _ _ _ _ _ ((9, _) :: (8, _) :: (7, _) :: (6, _) :: (5, _) :: (4, _) :: (3, _) :: _) _
  refine .n (.stF (fun y x => { x with Macs := y }) tyR29 (.t rfl) (.gs rfl (.s .z)) (.s (.s .z)) (fun _ _ => rfl) (.p (.fldW G_api_AlgebraR.l4 fd32_4 rfl (.t rfl) (.n (.stF (fun y x => { x with Boxes := y }) tyR30 (.t rfl) (.gs rfl .z) (.s (.s .z)) (fun _ _ => rfl) ?_)))))
  refine .nil ?_
  refine .seq ?_
  refine .region rfl ?_
  refine .p (.ldW tyR32 (.t rfl) (.s (.s .z)) (.p (.bS1 G_algebra_MakerR.l0 rfl tyR105 fo105 (fun c0 => (⟨c0, 0⟩ : G_algebra_MakerR)) (fun _ => rfl) rfl rfl (.t rfl) (.h (.box (.t rfl) fun b13 => .p (.assign (.t rfl) ?_))))))
  refine .nil ?_
  refine .ret ?_
  refine ⟨_, .r1 rfl (.tmp rfl), ?_⟩
  refine ⟨_, .cons .z (.cons (.s (.s .z)) (.cons (.s .z) (.nil))), ?_⟩
  exact ⟨ptr b13 0, ⟨a, 0, u5, u8⟩, rfl, rfl, rfl, rfl⟩
theorem Fail_raw (w : Value) (s : G_algebra_MakerR) (e : Int) : FunH gl Tryd.prog 83 [mp w, .v e] [.ob w s] (fun r Hs => Hs = [.ob w { s with e := if s.e = 0 then e else s.e }]) := by
  refine FunH.intro Tryd.func83 rfl (by kernel_rfl) 13 rfl rfl _ rfl _ rfl fun C hC hG => ?_
  refine .seq ?_
  refine .region rfl ?_
  refine .p (.move (.t rfl) (.p (.nilCheckL (.t rfl) (.p (.fldW G_algebra_MakerR.l1 fd105_1 rfl (.t rfl) (.p (.ldF (fun x => x.e) ty39 (.t rfl) .z (fun _ => rfl) (.p (.eqlI (.t rfl) (.i rfl) ?_)))))))))
  refine .nil ?_
  refine .condP (.t rfl) (fun hc8 => ?_) (fun hc8 => ?_)
  · refine .region rfl ?_
    refine .p (.move (.t rfl) (.p (.move (.t rfl) (.p (.nilCheckL (.t rfl) (.p (.fldW G_algebra_MakerR.l1 fd105_1 rfl (.t rfl) (.n (.stF (fun y x => { x with e := y }) ty39 (.t rfl) (.t rfl) .z (fun _ _ => rfl) ?_)))))))))
    refine .nil ?_
    refine ⟨_, .r0 rfl , ?_⟩
    have h8 : s.e = 0 := hc8
    rw [if_pos h8]; rfl
  · refine .skip ?_
    refine ⟨_, .r0 rfl , ?_⟩
    have h8 : ¬ s.e = 0 := hc8
    rw [if_neg h8]; rfl
def mkMac (a : Alg) (e : Int) (k : Tag) (m : List UInt8) : Tag × Alg × Int := if e ≠ 0 then (default, a, e) else ((algMac a k m).2.1, if (algMac a k m).2.2 = 0 then (algMac a k m).1 else a, (algMac a k m).2.2)
theorem mkMac_err {a : Alg} {e : Int} {k : Tag} {m : List UInt8} (h : e ≠ 0) : mkMac a e k m = (default, a, e) := by unfold mkMac; rw [if_pos h]
theorem mkMac_of {a : Alg} {e : Int} {k : Tag} {m : List UInt8} (h : e = 0) {r} (h2 : algMac a k m = r) : mkMac a e k m = (r.2.1, if r.2.2 = 0 then r.1 else a, r.2.2) := by unfold mkMac; rw [if_neg (by omega), h2]
theorem idx_lt {α : Type} {l : List α} {p : α → Bool} (h : 0 ≤ idx l p) : idx l p < l.length := by
  unfold idx at *; split at h <;> split <;> omega
theorem idx_get {α : Type} {l : List α} {p : α → Bool} (h : 0 ≤ idx l p) (h2 : (idx l p).toNat < l.length) : l.find? p = some l[(idx l p).toNat] := by
  have h3 : l.findIdx p < l.length := by unfold idx at h; split at h <;> omega
  have h4 : (idx l p).toNat = l.findIdx p := by unfold idx; rw [if_pos h3]; rfl
  simp only [h4]
  exact List.find?_eq_some_iff_getElem.2 ⟨List.findIdx_getElem (w := h3), _, h3, rfl, fun j hj => by simpa using List.not_of_lt_findIdx hj⟩
theorem idx_neg {α : Type} {l : List α} {p : α → Bool} (h : ¬ 0 ≤ idx l p) : l.find? p = none := by
  unfold idx at h
  split at h
  · omega
  · next h3 => exact List.find?_eq_none.2 fun x hx hp => h3 (List.findIdx_lt_length_of_exists ⟨x, hx, hp⟩)
theorem algMac_at {a : Alg} {k : Tag} {m : List UInt8} (h : ¬ 4096 < m.length) (hi : 0 ≤ idx a.Macs (macEq k m)) (h2 : (idx a.Macs (macEq k m)).toNat < a.Macs.length) : algMac a k m = (a, a.Macs[(idx a.Macs (macEq k m)).toNat].Tag, 0) := by
  unfold algMac algFind; rw [if_neg h, idx_get hi h2]
theorem Mac_raw (w : Value) (a : Alg) (e : Int) (um ub : Value) (B : Blk) (k : Tag) (m : List UInt8) (hl : a.Macs.length ≤ 1000000) : FunH gl Tryd.prog 54 [mp w, .v k, .v m] [.ob w (rawMk a e um ub), gsM um a, B]
    (fun r Hs => ∃ um', r = .v (mkMac a e k m).1 ∧ Hs = [.ob w (rawMk (mkMac a e k m).2.1 (mkMac a e k m).2.2 um' ub), gsM um' (mkMac a e k m).2.1, B]) := by
  refine FunH.introS Tryd.func54 rfl (by kernel_rfl) 80 rfl rfl _ rfl _ rfl fun C hC hG => ?_
  refine .seq ?_
  have hr0 : (rawMk a e um ub).a.Fresh = a.Fresh := rfl
  refine .region rfl ?_
  refine .h (.box (.t rfl) fun b4 => .h (.alloc ty28 fun b6 => ?_))
  refine .nil ?_
  refine .seq ?_
  refine .seq ?_
  refine .frzOb hC (.s .z) ?_
  refine .asP 4 rfl (.s .z) ?_
  refine .region rfl ?_
  refine .p (.move (.t rfl) (.p (.len Tryd.underlying23 (.t rfl) (.p (.gtr (.t rfl) (.i rfl) ?_)))))
  refine .nil ?_
  refine .condP (.t rfl) (fun hc12 => ?_) (fun hc12 => ?_)
  · refine .region rfl ?_
    refine .p (.move (.t rfl) (.h (.callM hG (Fail_raw _ _ _) (.s (.s .z)) (.cons (.t rfl) (.cons (.i rfl) .nil)) (by rintro _ _ rfl; exact ⟨_, rfl⟩) fun r14 B14 hr14 => ?_)))
    cases hr14
    refine .nil ?_
    refine .seq ?_
    refine .seq ?_
    refine .region rfl ?_
    refine .p (.move (.t rfl) (.p (.nilCheckL (.t rfl) (.p (.fldW G_algebra_MakerR.l1 fd105_1 rfl (.t rfl) (.p (.ldF (fun x => x.e) ty39 (.t rfl) (.s (.s .z)) (fun _ => rfl) (.p (.neqI (.t rfl) (.i rfl) ?_)))))))))
    refine .nil ?_
    refine .condP (.t rfl) (fun hc19 => ?_) (fun hc19 => (by exfalso; apply hc19; show (if e = 0 then (2 : Int) else e) ≠ 0; split <;> omega))
    refine .seq ?_
    refine .region rfl ?_
    refine .p (.buildA (default : (Arr 32 UInt8)) ty28 ar28 .nil rfl (.n (.stW ty28 (.t rfl) (.t rfl) .z ?_)))
    refine .nil ?_
    refine .ret ?_
    refine ⟨_, .r1 rfl (.cell ty28 rfl .z), ?_⟩
    refine ⟨_, .cons (.s (.s .z)) (.cons (.s (.s (.s .z))) (.cons (.s (.s (.s (.s .z)))) (.nil))), ?_⟩
    by_cases he : e = 0
    · rw [mkMac_of he (algMac_long (by omega))]; exact ⟨um, rfl, by rw [he]; rfl⟩
    · rw [mkMac_err he]; refine ⟨um, rfl, ?_⟩; show Blk.ob w (G_algebra_MakerR.mk _ (if e = 0 then (2 : Int) else e)) :: _ = _; rw [if_neg he]; rfl
  · refine .skip ?_
    refine .seq ?_
    refine .seq ?_
    refine .region rfl ?_
    refine .p (.move (.t rfl) (.p (.nilCheckL (.t rfl) (.p (.fldW G_algebra_MakerR.l1 fd105_1 rfl (.t rfl) (.p (.ldF (fun x => x.e) ty39 (.t rfl) (.s (.s .z)) (fun _ => rfl) (.p (.neqI (.t rfl) (.i rfl) ?_)))))))))
    refine .nil ?_
    refine .condP (.t rfl) (fun hc19 => ?_) (fun hc19 => ?_)
    · refine .seq ?_
      refine .region rfl ?_
      refine .p (.buildA (default : (Arr 32 UInt8)) ty28 ar28 .nil rfl (.n (.stW ty28 (.t rfl) (.t rfl) .z ?_)))
      refine .nil ?_
      refine .ret ?_
      refine ⟨_, .r1 rfl (.cell ty28 rfl .z), ?_⟩
      refine ⟨_, .cons (.s (.s .z)) (.cons (.s (.s (.s .z))) (.cons (.s (.s (.s (.s .z)))) (.nil))), ?_⟩
      have he : e ≠ 0 := hc19
      rw [mkMac_err he]; exact ⟨um, rfl, rfl⟩
    · refine .skip ?_
      refine .seq ?_
      refine .seq ?_
      refine .draw (by kernel_rfl) 9 [[], [(21, 0)], [(22, 1)], [(23, 2)], [(24, 3)], [], [], [(25, 4), (26, 5), (27, 6)], [(28, 7)]] rfl (by kernel_rfl) rfl ?_
      refine ⟨_, OpP.move (.t rfl) rfl, ?_⟩
      refine ⟨_, OpP.nilCheckL (.t rfl) rfl, ?_⟩
      refine ⟨_, OpP.fldW G_algebra_MakerR.l0 fd105_0 rfl (.t rfl) rfl, ?_⟩
      refine ⟨_, OpP.fldL G_api_AlgebraR.l3 fd32_3 rfl (.t rfl) rfl, ?_⟩
      refine ⟨_, OpP.ldR (fun x => x.a.Macs) tyR29 (.t rfl) (.s (.s .z)) (fun _ => rfl) rfl, ?_⟩
      refine ⟨_, OpP.ldP ty28 (.t rfl) rfl, ?_⟩
      refine ⟨_, OpP.move (.t rfl) rfl, ?_⟩
      refine ⟨_, OpP.lend1 hG (find_c _ _ _) (.cons (.gs rfl (.s (.s (.s .z)))) (.cons (.e (.t rfl)) (.cons (.e (.t rfl)) .nil))) (by first | exact .v | exact .t2 .v .v | exact .t3 .v .v .v) rfl, ?_⟩
      refine ⟨_, OpP.assign (.t rfl) rfl, ?_⟩
      show wpB _ _ _ _ _ _ ((7, _) :: (28, _) :: (27, _) :: (26, _) :: (25, _) :: (24, _) :: (23, _) :: (22, _) :: (21, _) :: _) _
      refine .nil ?_
      refine .seq ?_
      refine .region rfl ?_
      refine .p (.move (.t rfl) (.p (.geq (.t rfl) (.i rfl) ?_)))
      refine .nil ?_
      refine .condP (.t rfl) (fun hc30 => ?_) (fun hc30 => ?_)
      · refine .seq ?_
        refine .gsCases (.s (.s (.s .z))) ?_ ?_
        · have hi7 : 0 ≤ idx a.Macs (macEq k m) := hc30
          have hl7 := idx_lt hi7
          refine .region rfl ?_
          refine .p (.move (.t rfl) (.p (.nilCheckL (.t rfl) (.p (.fldW G_algebra_MakerR.l0 fd105_0 rfl (.t rfl) (.p (.fldL G_api_AlgebraR.l3 fd32_3 rfl (.t rfl) (.p (.ldR (fun x => x.a.Macs) tyR29 (.t rfl) (.s (.s .z)) (fun _ => rfl) ?_)))))))))
          refine .p (.move (.t rfl) (.p (.idx ty38 Tryd.underlying29 (.fzC rfl (.s (.s (.s .z)))) (.t rfl) (by first | omega | (simp; done) | (simp; omega) | (simp at *; omega)) (by first | omega | (simp; done) | (simp; omega) | (simp at *; omega)) (.p (.fldPF G_api_Mac.l2 (fun x => x.Tag) fd38_2 rfl (fun _ => rfl) (.t rfl) (.p (.ldP ty28 (.t rfl) (.n (.stW ty28 (.t rfl) (.t rfl) .z ?_)))))))))
          refine .nil ?_
          refine .ret ?_
          refine ⟨_, .r1 rfl (.cell ty28 rfl .z), ?_⟩
          refine ⟨_, .cons (.s (.s .z)) (.gsC (.s (.s (.s .z))) (.cons (.s (.s (.s (.s .z)))) (.nil))), ?_⟩
          have he : e = 0 := by have h9 : ¬ (e ≠ 0) := hc19; omega
          rw [mkMac_of he (algMac_at (by omega) hi7 (by omega))]; exact ⟨um, rfl, by rw [he]; rfl⟩
        · have hi7 : 0 ≤ idx a.Macs (macEq k m) := hc30
          have hl7 := idx_lt hi7
          refine .region rfl ?_
          refine .p (.move (.t rfl) (.p (.nilCheckL (.t rfl) (.p (.fldW G_algebra_MakerR.l0 fd105_0 rfl (.t rfl) (.p (.fldL G_api_AlgebraR.l3 fd32_3 rfl (.t rfl) (.p (.ldR (fun x => x.a.Macs) tyR29 (.t rfl) (.s (.s .z)) (fun _ => rfl) ?_)))))))))
          refine .p (.move (.t rfl) (.p (.idxOwn ty38 Tryd.underlying29 rfl (.s (.s (.s .z))) (.t rfl) (by first | omega | (simp; done) | (simp; omega) | (simp at *; omega)) (by first | omega | (simp; done) | (simp; omega) | (simp at *; omega)) (.p (.fldE G_api_Mac.l2 fd38_2 rfl (.t rfl) (.p (.ldE ty28 (.t rfl) (.s (.s (.s .z))) (by first | omega | (simp; done) | (simp; omega) | (simp at *; omega)) (.n (.stW ty28 (.t rfl) (.t rfl) .z ?_)))))))))
          refine .nil ?_
          refine .ret ?_
          refine ⟨_, .r1 rfl (.cell ty28 rfl .z), ?_⟩
          refine ⟨_, .cons (.s (.s .z)) (.gsO (.s (.s (.s .z))) (.cons (.s (.s (.s (.s .z)))) (.nil))), ?_⟩
          have he : e = 0 := by have h9 : ¬ (e ≠ 0) := hc19; omega
          rw [mkMac_of he (algMac_at (by omega) hi7 (by omega))]; exact ⟨um, rfl, by rw [he]; rfl⟩
      · refine .skip ?_
        refine .seq ?_
        refine .region rfl ?_
        refine .p (.move (.t rfl) (.p (.nilCheckL (.t rfl) (.p (.fldW G_algebra_MakerR.l0 fd105_0 rfl (.t rfl) (.p (.fldL G_api_AlgebraR.l3 fd32_3 rfl (.t rfl) (.p (.ldR (fun x => x.a.Macs) tyR29 (.t rfl) (.s (.s .z)) (fun _ => rfl) ?_)))))))))
        refine .p (.lenGS Tryd.underlying29 rfl (.s (.s (.s .z))) (.p (.add (.t rfl) (.i rfl) (by first | omega | (simp; done) | (simp; omega) | (simp at *; omega)) (by first | omega | (simp; done) | (simp; omega) | (simp at *; omega)) (.p (.assign (.t rfl) ?_)))))
        refine .nil ?_
        refine .seq ?_
        refine .seq ?_
        refine .region rfl ?_
        refine .p (.move (.t rfl) (.p (.gtr (.t rfl) (.i rfl) ?_)))
        refine .nil ?_
        refine .condP (.t rfl) (fun hc48 => ?_) (fun hc48 => ?_)
        · refine .seq ?_
          refine .region rfl ?_
          refine .p (.move (.t rfl) (.h (.callM hG (Fail_raw _ _ _) (.s (.s .z)) (.cons (.t rfl) (.cons (.i rfl) .nil)) (by rintro _ _ rfl; exact ⟨_, rfl⟩) fun r50 B50 hr50 => ?_)))
          cases hr50
          refine .nil ?_
          refine .seq ?_
          refine .region rfl ?_
          refine .p (.buildA (default : (Arr 32 UInt8)) ty28 ar28 .nil rfl (.n (.stW ty28 (.t rfl) (.t rfl) .z ?_)))
          refine .nil ?_
          refine .ret ?_
          refine ⟨_, .r1 rfl (.cell ty28 rfl .z), ?_⟩
          refine ⟨_, .cons (.s (.s .z)) (.cons (.s (.s (.s .z))) (.cons (.s (.s (.s (.s .z)))) (.nil))), ?_⟩
          have he : e = 0 := by have h9 : ¬ (e ≠ 0) := hc19; omega
          have hf := idx_neg hc30
          rw [mkMac_of he (algMac_full (by omega) hf (by simp at hc48; omega))]; exact ⟨um, rfl, by rw [he]; rfl⟩
        · refine .skip ?_
          refine .seq ?_
          refine .region rfl ?_
          refine .p (.move (.t rfl) (.p (.call1 hG (Symbol_c _ _) (.cons (.u8 109 rfl) (.cons (.t rfl) .nil)) (.h (.alloc ty28 fun b9 => .n (.stW ty28 (.t rfl) (.t rfl) .z ?_))))))
          refine .nil ?_
          refine .seq ?_
          refine .seq ?_
          refine .region rfl ?_
          refine .p (.move (.t rfl) (.p (.nilCheckL (.t rfl) (.p (.fldW G_algebra_MakerR.l0 fd105_0 rfl (.t rfl) (.p (.fldL G_api_AlgebraR.l0 fd32_0 rfl (.t rfl) (.p (.ldF (fun x => x.a.Free) ty4 (.t rfl) (.s (.s (.s .z))) (fun _ => rfl) (.p (.not (.t rfl) ?_)))))))))))
          refine .nil ?_
          refine .cond (.t rfl) (fun hc59 => ?_) (fun hc59 => ?_)
          · refine .region rfl ?_
            refine .p (.slArrP (by decide) ar28 (.t rfl) (.p (.move (.t rfl) (.p (.call1 hG (hmacOf_c _ _ (by first | omega | (simp; done) | (simp; omega) | (simp at *; omega)) (by first | omega | (simp; done) | (simp; omega) | (simp at *; omega))) (.cons (.t rfl) (.cons (.t rfl) .nil)) (.n (.stW ty28 (.t rfl) (.t rfl) .z ?_)))))))
            refine .nil ?_
            refine .seq ?_
            refine .drawCF [false, false, false, false, true, false] (by kernel_rfl) 16 [[], [], [(64, 1)], [(65, 2)], [(66, 3)], [(67, 4)], [], [], [(70, 7)], [], [(69, 6), (71, 8), (72, 9)], [(73, 10)], [(68, 5), (74, 11)], [(63, 0)], [(76, 13)], [(77, 14)]] [5, 12] rfl (by kernel_rfl) rfl (by kernel_rfl) (by decide) ?_
            refine ⟨_, fun H => OpP.move (.t rfl) rfl, ?_⟩
            refine ⟨_, fun H => OpP.move (.t rfl) rfl, ?_⟩
            refine ⟨_, fun H => OpP.nilCheckL (.t rfl) rfl, ?_⟩
            refine ⟨_, fun H => OpP.fldW G_algebra_MakerR.l0 fd105_0 rfl (.t rfl) rfl, ?_⟩
            refine ⟨_, fun H => OpP.fldL G_api_AlgebraR.l3 fd32_3 rfl (.t rfl) rfl, ?_⟩
            refine .inl ?_
            refine ⟨_, fun H => OpP.ldP ty28 (.t rfl) rfl, ?_⟩
            refine ⟨_, fun H => OpP.move (.t rfl) rfl, ?_⟩
            refine ⟨_, fun H => OpP.call1 hG (bytesClone_c _ (by first | omega | (simp; done) | (simp; omega) | (simp at *; omega))) (.cons (.t rfl) .nil) rfl, ?_⟩
            refine ⟨_, fun H => OpP.ldW ty28 (.t rfl) (Hole.app .z) rfl, ?_⟩
            refine ⟨_, fun H => OpP.bS3 G_api_Mac.l0 G_api_Mac.l1 G_api_Mac.l2 rfl ty38 fo38 (fun c0 c1 c2 => (⟨c0, c1, c2⟩ : G_api_Mac)) (fun _ _ _ => rfl) rfl rfl rfl rfl (.t rfl) (.t rfl) (.t rfl) rfl, ?_⟩
            refine ⟨_, fun H => OpP.buildSliceF (α := G_api_Mac) ty38 Tryd.underlying29 (.cons (.t rfl) .nil) rfl (by decide) rfl, ?_⟩
            refine .inl ?_
            refine ⟨_, fun H => OpP.nilCheckL (.t rfl) rfl, ?_⟩
            refine ⟨_, fun H => OpP.fldW G_algebra_MakerR.l0 fd105_0 rfl (.t rfl) rfl, ?_⟩
            refine ⟨_, fun H => OpP.fldL G_api_AlgebraR.l3 fd32_3 rfl (.t rfl) rfl, ?_⟩
            refine ⟨⟨([], fun k => List.getD [(true, .none_), (true, .none_), (true, .none_), (true, .none_), _, (true, .none_)] k (true, .none_)), rfl⟩, ?_⟩
            refine OpH.ofP (OpP.ldR (fun x => x.a.Macs) tyR29 (.t rfl) (.s (.s (.s .z))) (fun _ => rfl) ?_)
            refine ⟨⟨([], fun k => List.getD [(true, .none_), (true, .none_), (true, .none_), (true, .none_), _, (true, .none_)] k (true, .none_)), rfl⟩, ?_⟩
            refine OpH.appendGS st29 (.inl ⟨_, Tryd.underlying29⟩) rfl (.s (.s (.s (.s .z)))) (.v (.c rfl)) (by first | omega | (simp; done) | (simp; omega) | (simp at *; omega)) (by first | omega | (simp; done) | (simp; omega) | (simp at *; omega)) fun w75 => ?_
            refine ⟨⟨([], fun k => List.getD [(true, .none_), (true, .none_), (true, .none_), (true, .none_), _, (true, .none_)] k (true, .none_)), rfl⟩, ?_⟩
            show wpB _ _ _ _ _ _ ((78, _) :: (77, _) :: (76, _) :: (75, _) :: (74, _) :: (73, _) :: (72, _) :: (71, _) :: (70, _) :: (69, _) :: (68, _) :: (67, _) :: (66, _) :: (65, _) :: (64, _) :: (63, _) :: _) _
            refine .n (.stF (fun y x => { x with a.Macs := y }) tyR29 (.t rfl) (.gs rfl (.s (.s (.s (.s .z))))) (.s (.s (.s .z))) (fun _ _ => rfl) ?_)
            refine .nil ?_
            refine .seq ?_
            refine .region rfl ?_
            refine .p (.ldW ty28 (.t rfl) .z (.n (.stW ty28 (.t rfl) (.t rfl) (.s .z) ?_)))
            refine .nil ?_
            refine .ret ?_
            refine ⟨_, .r1 rfl (.cell ty28 rfl (.s .z)), ?_⟩
            refine ⟨_, .cons (.s (.s (.s .z))) (.cons (.s (.s (.s (.s .z)))) (.cons (.s (.s (.s (.s (.s .z))))) (.nil))), ?_⟩
            have he : e = 0 := by have h9 : ¬ (e ≠ 0) := hc19; omega
            have hf := idx_neg hc30
            rw [mkMac_of he (algMac_new (by omega) hf (by simp at hc48; omega)), newTag_real (show a.Free = false from by have h9 : (!a.Free) = true := hc59; simpa using h9)]; exact ⟨w75, rfl, by rw [he]; rfl⟩
          · refine .skip ?_
            refine .seq ?_
            refine .drawCF [false, false, false, false, true, false] (by kernel_rfl) 16 [[], [], [(64, 1)], [(65, 2)], [(66, 3)], [(67, 4)], [], [], [(70, 7)], [], [(69, 6), (71, 8), (72, 9)], [(73, 10)], [(68, 5), (74, 11)], [(63, 0)], [(76, 13)], [(77, 14)]] [5, 12] rfl (by kernel_rfl) rfl (by kernel_rfl) (by decide) ?_
            refine ⟨_, fun H => OpP.move (.t rfl) rfl, ?_⟩
            refine ⟨_, fun H => OpP.move (.t rfl) rfl, ?_⟩
            refine ⟨_, fun H => OpP.nilCheckL (.t rfl) rfl, ?_⟩
            refine ⟨_, fun H => OpP.fldW G_algebra_MakerR.l0 fd105_0 rfl (.t rfl) rfl, ?_⟩
            refine ⟨_, fun H => OpP.fldL G_api_AlgebraR.l3 fd32_3 rfl (.t rfl) rfl, ?_⟩
            refine .inl ?_
            refine ⟨_, fun H => OpP.ldP ty28 (.t rfl) rfl, ?_⟩
            refine ⟨_, fun H => OpP.move (.t rfl) rfl, ?_⟩
            refine ⟨_, fun H => OpP.call1 hG (bytesClone_c _ (by first | omega | (simp; done) | (simp; omega) | (simp at *; omega))) (.cons (.t rfl) .nil) rfl, ?_⟩
            refine ⟨_, fun H => OpP.ldW ty28 (.t rfl) (Hole.app .z) rfl, ?_⟩
            refine ⟨_, fun H => OpP.bS3 G_api_Mac.l0 G_api_Mac.l1 G_api_Mac.l2 rfl ty38 fo38 (fun c0 c1 c2 => (⟨c0, c1, c2⟩ : G_api_Mac)) (fun _ _ _ => rfl) rfl rfl rfl rfl (.t rfl) (.t rfl) (.t rfl) rfl, ?_⟩
            refine ⟨_, fun H => OpP.buildSliceF (α := G_api_Mac) ty38 Tryd.underlying29 (.cons (.t rfl) .nil) rfl (by decide) rfl, ?_⟩
            refine .inl ?_
            refine ⟨_, fun H => OpP.nilCheckL (.t rfl) rfl, ?_⟩
            refine ⟨_, fun H => OpP.fldW G_algebra_MakerR.l0 fd105_0 rfl (.t rfl) rfl, ?_⟩
            refine ⟨_, fun H => OpP.fldL G_api_AlgebraR.l3 fd32_3 rfl (.t rfl) rfl, ?_⟩
            refine ⟨⟨([], fun k => List.getD [(true, .none_), (true, .none_), (true, .none_), (true, .none_), _, (true, .none_)] k (true, .none_)), rfl⟩, ?_⟩
            refine OpH.ofP (OpP.ldR (fun x => x.a.Macs) tyR29 (.t rfl) (.s (.s (.s .z))) (fun _ => rfl) ?_)
            refine ⟨⟨([], fun k => List.getD [(true, .none_), (true, .none_), (true, .none_), (true, .none_), _, (true, .none_)] k (true, .none_)), rfl⟩, ?_⟩
            refine OpH.appendGS st29 (.inl ⟨_, Tryd.underlying29⟩) rfl (.s (.s (.s (.s .z)))) (.v (.c rfl)) (by first | omega | (simp; done) | (simp; omega) | (simp at *; omega)) (by first | omega | (simp; done) | (simp; omega) | (simp at *; omega)) fun w75 => ?_
            refine ⟨⟨([], fun k => List.getD [(true, .none_), (true, .none_), (true, .none_), (true, .none_), _, (true, .none_)] k (true, .none_)), rfl⟩, ?_⟩
            show wpB _ _ _ _ _ _ ((78, _) :: (77, _) :: (76, _) :: (75, _) :: (74, _) :: (73, _) :: (72, _) :: (71, _) :: (70, _) :: (69, _) :: (68, _) :: (67, _) :: (66, _) :: (65, _) :: (64, _) :: (63, _) :: _) _
            refine .n (.stF (fun y x => { x with a.Macs := y }) tyR29 (.t rfl) (.gs rfl (.s (.s (.s (.s .z))))) (.s (.s (.s .z))) (fun _ _ => rfl) ?_)
            refine .nil ?_
            refine .seq ?_
            refine .region rfl ?_
            refine .p (.ldW ty28 (.t rfl) .z (.n (.stW ty28 (.t rfl) (.t rfl) (.s .z) ?_)))
            refine .nil ?_
            refine .ret ?_
            refine ⟨_, .r1 rfl (.cell ty28 rfl (.s .z)), ?_⟩
            refine ⟨_, .cons (.s (.s (.s .z))) (.cons (.s (.s (.s (.s .z)))) (.cons (.s (.s (.s (.s (.s .z))))) (.nil))), ?_⟩
            have he : e = 0 := by have h9 : ¬ (e ≠ 0) := hc19; omega
            have hf := idx_neg hc30
            rw [mkMac_of he (algMac_new (by omega) hf (by simp at hc48; omega)), newTag_free (show a.Free = true from by have h9 : (!a.Free) = false := hc59; simpa using h9)]; exact ⟨w75, rfl, by rw [he]; rfl⟩
theorem Done_raw (w : Value) (s : G_algebra_MakerR) (B1 B2 : Blk) : FunH gl Tryd.prog 55 [mp w] [.ob w s, B1, B2] (fun r Hs => r = .t2 (.v (if s.e ≠ 0 then default else s.a)) (.v s.e) ∧ Hs = [.ob w s, B1, B2]) := by
  refine FunH.introS Tryd.func55 rfl (by kernel_rfl) 18 rfl rfl _ rfl _ rfl fun C hC hG => ?_
  refine .seq ?_
  refine .region rfl ?_
  refine .h (.alloc tyR32 fun b2 => .p (.assign (.i rfl) ?_))
  refine .nil ?_
  refine .seq ?_
  refine .seq ?_
  refine .region rfl ?_
  refine .p (.move (.t rfl) (.p (.nilCheckL (.t rfl) (.p (.fldW G_algebra_MakerR.l1 fd105_1 rfl (.t rfl) (.p (.ldF (fun x => x.e) ty39 (.t rfl) (.s .z) (fun _ => rfl) (.p (.neqI (.t rfl) (.i rfl) ?_)))))))))
  refine .nil ?_
  refine .condP (.t rfl) (fun hc8 => ?_) (fun hc8 => ?_)
  · refine .seq ?_
    refine .drawCF [true, false, false, false] (by kernel_rfl) 7 [[], [], [(10, 1)], [(11, 2)], [(12, 3)], [(9, 0)], [(13, 4)]] [5] rfl (by kernel_rfl) rfl (by kernel_rfl) (by decide) ?_
    refine ⟨_, fun H => OpP.bS0 (α := G_api_AlgebraR) rfl tyR32 fo32 rfl, ?_⟩
    refine ⟨_, fun H => OpP.move (.t rfl) rfl, ?_⟩
    refine ⟨_, fun H => OpP.nilCheckL (.t rfl) rfl, ?_⟩
    refine ⟨_, fun H => OpP.fldW G_algebra_MakerR.l1 fd105_1 rfl (.t rfl) rfl, ?_⟩
    refine ⟨_, fun H => OpP.ldF (fun x => x.e) ty39 (.t rfl) (Hole.app (.s .z)) (fun _ => rfl) rfl, ?_⟩
    refine .inl ?_
    refine ⟨_, fun H => OpP.assign (.t rfl) rfl, ?_⟩
    refine ⟨⟨([], fun k => List.getD [_, (true, .none_), (true, .none_), (true, .none_)] k (true, .none_)), rfl⟩, ?_⟩
    refine OpH.stW tyR32 (.t rfl) (.t rfl) .z ?_
    refine ⟨⟨([], fun k => List.getD [_, (true, .none_), (true, .none_), (true, .none_)] k (true, .none_)), rfl⟩, ?_⟩
    show wpB _ _ _ _ _ _ ((3, _) :: (13, _) :: (12, _) :: (11, _) :: (10, _) :: (9, _) :: _) _
    refine .nil ?_
    refine .ret ?_
    refine ⟨_, .r2 rfl (.cell tyR32 rfl .z) (.tmp rfl), ?_⟩
    refine ⟨_, .cons (.s .z) (.cons (.s (.s .z)) (.cons (.s (.s (.s .z))) (.nil))), ?_⟩
    rw [if_pos hc8]; exact ⟨rfl, rfl⟩
  · refine .skip ?_
    refine .seq ?_
    refine .region rfl ?_
    refine .p (.move (.t rfl) (.p (.nilCheckL (.t rfl) (.p (.fldW G_algebra_MakerR.l0 fd105_0 rfl (.t rfl) (.p (.ldF (fun x => x.a) tyR32 (.t rfl) (.s .z) (fun _ => rfl) (.n (.stW tyR32 (.t rfl) (.t rfl) .z (.p (.assign (.i rfl) ?_)))))))))))
    refine .nil ?_
    refine .ret ?_
    refine ⟨_, .r2 rfl (.cell tyR32 rfl .z) (.tmp rfl), ?_⟩
    refine ⟨_, .cons (.s .z) (.cons (.s (.s .z)) (.cons (.s (.s (.s .z))) (.nil))), ?_⟩
    rw [if_neg hc8, show s.e = 0 by omega]; exact ⟨rfl, rfl⟩
theorem mkMac_boxes (a : Alg) (e : Int) (k : Tag) (m : List UInt8) : (mkMac a e k m).2.1.Boxes = a.Boxes := by
  unfold mkMac algMac; split
  · rfl
  · split
    · rfl
    · split
      · rfl
      · split <;> rfl
theorem Mac_mk (w : Value) (x : MkU) (k : Tag) (m : List UInt8) (hl : x.a.Macs.length ≤ 1000000) : FunH gl Tryd.prog 54 [mp w, .v k, .v m] [.usr w x] (fun r Hs => ∃ x' : MkU, Hs = [.usr w x'] ∧ r = .v (mkMac x.a x.e k m).1 ∧ x'.a = (mkMac x.a x.e k m).2.1 ∧ x'.e = (mkMac x.a x.e k m).2.2) :=
  FunH.mk (post := fun r x' => r = .v (mkMac x.a x.e k m).1 ∧ x'.a = (mkMac x.a x.e k m).2.1 ∧ x'.e = (mkMac x.a x.e k m).2.2)
    ((Mac_raw w x.a x.e x.um x.ub (gsB x.ub x.a) k m hl).mono fun r Hs ⟨um', h1, h2⟩ => ⟨⟨_, _, um', x.ub⟩, by rw [h2]; unfold MkU.bs gsB; rw [mkMac_boxes], h1, rfl, rfl⟩)
theorem Done_mk (w : Value) (x : MkU) : FunH gl Tryd.prog 55 [mp w] [.usr w x] (fun r Hs => ∃ x' : MkU, Hs = [.usr w x'] ∧ r = .t2 (.v (if x.e ≠ 0 then default else rawAlg x.a x.um x.ub)) (.v x.e) ∧ x' = x) :=
  FunH.mk (post := fun r x' => r = .t2 (.v (if x.e ≠ 0 then default else rawAlg x.a x.um x.ub)) (.v x.e) ∧ x' = x)
    ((Done_raw w (rawMk x.a x.e x.um x.ub) (gsM x.um x.a) (gsB x.ub x.a)).mono fun r Hs ⟨h1, h2⟩ => ⟨x, h2, h1, rfl⟩)
theorem mkDoneB {P : Program} {C : Ctx} {N : Nat} {σ : AEnv} {H : AHeap} {ops : Array Oper} {Q : Exit → AEnv → AHeap → Prop} {os : List Oper} (hC : Ctx.Ok C) (t : Nat) {w : Value} {x : MkU} {F : Bool × Blk → AHeap} (ht : lookA σ t = some (.v (if x.e ≠ 0 then default else rawAlg x.a x.um x.ub))) (hH : Hole H (true, .usr w x) F)
    (k : wpB P C N ops Q os ((t, .v (if x.e ≠ 0 then default else x.a)) :: σ) (F (true, .fz w .any))) : wpB P C N ops Q os σ H := fun ρ I L hs => by
  obtain ⟨i, X, h1, h2, h3⟩ := hH.get hs.heap
  refine .freeze i h1 (frz_ok hC h2) fun J hle hp => k ρ J _ ⟨fun s b hb => ?_, h3 J _ [] hle ⟨⟨rfl, trivial⟩, by simp⟩, hs.im0.trans hle⟩
  obtain ⟨L0, rfl, X0, R0, rfl, g0, X1, R1, rfl, g1, X2, R2, rfl, g2, g3⟩ := h2.1
  have f1 := gs_frz g1 hle (fun p hq => hp p (by simp [hq]))
  have f2 := gs_frz g2 hle (fun p hq => hp p (by simp [hq]))
  rw [lookA_cons] at hb
  by_cases e : t = s
  · subst e; simp only [if_true] at hb; cases hb
    obtain ⟨u, h4, h5⟩ := hs.env t _ ht
    refine ⟨u, h4, ?_⟩
    by_cases he : x.e ≠ 0
    · rw [if_pos he] at h5 ⊢
      exact rawAlg_to default _ _ J u (h5.mono hle) ⟨_, ⟨_, rfl, [], Sl.nil J _, rfl⟩, rfl⟩ ⟨_, ⟨_, rfl, [], Sl.nil J _, rfl⟩, rfl⟩
    · rw [if_neg he] at h5 ⊢
      exact rawAlg_to x.a _ _ J u (h5.mono hle) f1 f2
  · rw [if_neg e] at hb
    obtain ⟨u, h4, h5⟩ := hs.env s b hb
    exact ⟨u, h4, h5.mono hle⟩
end Go.Proofs.YtiekhjbhlekaeaaDoor
set_option linter.unusedVariables false
namespace Go.Fl
open Go.RowKit
section
variable {P : Program} {C : Ctx} {N : Nat} {ρ : Env} {I : Im} {L : Lh} {d : Option Nat} {F : Operand} {args : Array Operand} {tys : Array TypeId} {ty : TypeId} {ps : String} {af : Array Edge} {g : Option (Nat × Bool)} {vs : List Value}
end
end Go.Fl
set_option linter.unusedVariables false
namespace Go.Fl
open Go.RowKit
section
variable {P : Program} {C : Ctx} {N : Nat} {Q : Exit → Env → Im → Lh → Prop} {ρ : Env} {I : Im} {L : Lh}
end
abbrev Chunk := List (Nat × Obj)
end Go.Fl
set_option linter.unusedVariables false
namespace Go.Ab
open Go.Fl Go.RowKit
open Rep (rep)
structure Iter where
  K : Nat → Im → Chunk → Prop
  Kx : Im → Chunk → Prop
  mono : ∀ k I J Z, Le I J → K k I Z → K k J Z
  monox : ∀ I J Z, Le I J → Kx I Z → Kx J Z
structure ItSt where
  it : Iter
  st : Option Nat
section
variable {P : Program} {C : Ctx} {N : Nat} {Q : Exit → AEnv → AHeap → Prop} {σ : AEnv} {H : AHeap}
end
theorem FunH.frzA {G : Gl} {P : Program} {f : FuncId} {ags : List AV} {E : TypeId} {α : Type} [r : Rep α] {l : List α} (h : FunH G P f ags [] (fun r Hs => ∃ u, r = .raw u ∧ Hs = [.own E u l])) : FunA G P f ags (fun r => r = .v l) := fun I vs hG hvs => by
  have hM := h I [] vs hG hvs rfl
  refine ⟨hM.ok, fun w hm => (hM.run w hm).mono ?_⟩
  rintro e w' ⟨v, J, L', rfl, q1, q2, q3, q4, q5, r, Hs', q6, q7, u, rfl, rfl⟩
  obtain ⟨X, R, rfl, q8, q9⟩ := q7
  have q9' : R = [] := q9
  subst q9'
  have q6' : v = u := q6
  subst q6'
  have hle : Le J (J.with X) := Im.with_le fun p hp => q4.sep p (by simpa using hp)
  refine ⟨v, J.with X, rfl, by simpa using q1, q2.trans hle, fun b h0 h1 => ?_, (q4.freeze (i := 0) (c := X) rfl).drop, .v l, freeze_own q8 hle (fun p hp => Im.with_mem (by simpa using q4.nodup) hp), rfl⟩
  cases hj : J.with X b with
  | none => exact absurd hj h1
  | some o =>
    rcases Im.with_some hj with h2 | h2
    · rcases q5 (b, o) (by simpa using h2) with h3 | h3
      · exact h3
      · cases h3
    · exact q3 b h0 (by simp [h2])
end Go.Ab
set_option maxRecDepth 1000000
set_option linter.unusedVariables false
set_option linter.unusedSimpArgs false
namespace Go.Proofs.YtiekhjbhlekaeaaDoor
open Go.Fl Go.Ab Go.Mac Go.Sha
end Go.Proofs.YtiekhjbhlekaeaaDoor
set_option maxRecDepth 1000000
set_option linter.unusedVariables false
set_option linter.unusedSimpArgs false
namespace Go.Proofs.YtiekhjbhlekaeaaDoor
open Go.Fl Go.Ab Go.Mac Go.Sha
theorem Fail_raw3 (w : Value) (s : G_algebra_MakerR) (e : Int) (B1 B2 : Blk) : FunH gl Tryd.prog 83 [mp w, .v e] [.ob w s, B1, B2] (fun r Hs => Hs = [.ob w { s with e := if s.e = 0 then e else s.e }, B1, B2]) := by
  refine FunH.intro Tryd.func83 rfl (by kernel_rfl) 13 rfl rfl _ rfl _ rfl fun C hC hG => ?_
  refine .seq ?_
  refine .region rfl ?_
  refine .p (.move (.t rfl) (.p (.nilCheckL (.t rfl) (.p (.fldW G_algebra_MakerR.l1 fd105_1 rfl (.t rfl) (.p (.ldF (fun x => x.e) ty39 (.t rfl) .z (fun _ => rfl) (.p (.eqlI (.t rfl) (.i rfl) ?_)))))))))
  refine .nil ?_
  refine .condP (.t rfl) (fun hc8 => ?_) (fun hc8 => ?_)
  · refine .region rfl ?_
    refine .p (.move (.t rfl) (.p (.move (.t rfl) (.p (.nilCheckL (.t rfl) (.p (.fldW G_algebra_MakerR.l1 fd105_1 rfl (.t rfl) (.n (.stF (fun y x => { x with e := y }) ty39 (.t rfl) (.t rfl) .z (fun _ _ => rfl) ?_)))))))))
    refine .nil ?_
    refine ⟨_, .r0 rfl , ?_⟩
    have h8 : s.e = 0 := hc8
    rw [if_pos h8]; rfl
  · refine .skip ?_
    refine ⟨_, .r0 rfl , ?_⟩
    have h8 : ¬ s.e = 0 := hc8
    rw [if_neg h8]; rfl
theorem Fail_mk (w : Value) (x : MkU) (e : Int) : FunH gl Tryd.prog 83 [mp w, .v e] [.usr w x] (fun r Hs => ∃ x' : MkU, Hs = [.usr w x'] ∧ x'.a = x.a ∧ x'.e = if x.e = 0 then e else x.e) :=
  FunH.mk (post := fun r x' => x'.a = x.a ∧ x'.e = if x.e = 0 then e else x.e)
    ((show FunH gl Tryd.prog 83 [mp w, .v e] (x.bs w) _ from Fail_raw3 w (rawMk x.a x.e x.um x.ub) e (gsM x.um x.a) (gsB x.ub x.a)).mono fun r Hs h => ⟨⟨x.a, if x.e = 0 then e else x.e, x.um, x.ub⟩, h, rfl, rfl⟩)
end Go.Proofs.YtiekhjbhlekaeaaDoor
set_option linter.unusedVariables false
namespace Go.Ab
open Go.Fl Go.RowKit
open Rep (rep)
variable {P : Program} {N : Nat} {C : Ctx} {σ : AEnv} {H : AHeap} {K : AV → Prop} {d : Option Nat} {ty : TypeId} {ps : String} {af : Array Edge} {g : Option (Nat × Bool)} {x y : Operand} {T T2 : TypeId}
theorem ofInt_toNat64 {m : Int} (h0 : 0 ≤ m) (h1 : m ≤ 9223372036854775807) : (BitVec.ofInt 64 m).toNat = m.toNat := by
  rw [BitVec.toNat_ofInt, Int.emod_eq_of_lt h0 (by omega)]
theorem wrap64 {n : Nat} (h : n < 2 ^ 63) : IntKind.wrap .i64 (n : Int) = (n : Int) := wrap_i64 (by omega) (by omega)
theorem andI_run {m n : Int} (h0 : 0 ≤ m) (h1 : 0 ≤ n) (hm : m ≤ 9223372036854775807) (hn : n ≤ 9223372036854775807) : binOp .and T (i64 m) (i64 n) = pure (i64 ((m.toNat &&& n.toNat : Nat) : Int)) := by
  show Op.intBits .and .i64 m n = _
  unfold Op.intBits
  have e : ((BitVec.ofInt 64 m) &&& (BitVec.ofInt 64 n)).toNat = m.toNat &&& n.toNat := by rw [BitVec.toNat_and, ofInt_toNat64 h0 hm, ofInt_toNat64 h1 hn]
  have hb : m.toNat &&& n.toNat < 2 ^ 63 := Nat.lt_of_le_of_lt Nat.and_le_left (by omega)
  show (pure (Value.int .i64 (IntKind.wrap .i64 (((BitVec.ofInt 64 m) &&& (BitVec.ofInt 64 n)).toNat : Int))) : Sem Value) = _
  rw [e, wrap64 hb]
theorem orI_run {m n : Int} (h0 : 0 ≤ m) (h1 : 0 ≤ n) (hm : m ≤ 9223372036854775807) (hn : n ≤ 9223372036854775807) : binOp .or T (i64 m) (i64 n) = pure (i64 ((m.toNat ||| n.toNat : Nat) : Int)) := by
  show Op.intBits .or .i64 m n = _
  unfold Op.intBits
  have e : ((BitVec.ofInt 64 m) ||| (BitVec.ofInt 64 n)).toNat = m.toNat ||| n.toNat := by rw [BitVec.toNat_or, ofInt_toNat64 h0 hm, ofInt_toNat64 h1 hn]
  have hb : m.toNat ||| n.toNat < 2 ^ 63 := Nat.or_lt_two_pow (by omega) (by omega)
  show (pure (Value.int .i64 (IntKind.wrap .i64 (((BitVec.ofInt 64 m) ||| (BitVec.ofInt 64 n)).toNat : Int))) : Sem Value) = _
  rw [e, wrap64 hb]
theorem OpP.andI {m n : Int} (hx : EvA C σ H x (.v m)) (hy : EvA C σ H y (.v n)) (h0 : 0 ≤ m) (h1 : 0 ≤ n) (k : K (.v (((m.toNat &&& n.toNat : Nat) : Int)))) : OpP P N C ⟨d, .binOp .and T x y T2, ty, ps, af, g⟩ σ H K :=
  .vk k (fun ρ I L hs => by
    obtain ⟨e1, _, b1⟩ := hx.int hs
    obtain ⟨e2, _, b2⟩ := hy.int hs
    have hb : m.toNat &&& n.toNat ≤ m.toNat := Nat.and_le_left
    exact .mk ⟨_, ⟨rfl, by omega, by omega⟩, rfl⟩ fun a w ha hm => by
      simp [execOp, ha.ev e1, ha.ev e2, eqGuard, andI_run h0 h1 b1 b2, asV, Rep.agg])
theorem OpP.orI {m n : Int} (hx : EvA C σ H x (.v m)) (hy : EvA C σ H y (.v n)) (h0 : 0 ≤ m) (h1 : 0 ≤ n) (k : K (.v (((m.toNat ||| n.toNat : Nat) : Int)))) : OpP P N C ⟨d, .binOp .or T x y T2, ty, ps, af, g⟩ σ H K :=
  .vk k (fun ρ I L hs => by
    obtain ⟨e1, _, b1⟩ := hx.int hs
    obtain ⟨e2, _, b2⟩ := hy.int hs
    have hb : m.toNat ||| n.toNat < 2 ^ 63 := Nat.or_lt_two_pow (by omega) (by omega)
    exact .mk ⟨_, ⟨rfl, by omega, by omega⟩, rfl⟩ fun a w ha hm => by
      simp [execOp, ha.ev e1, ha.ev e2, eqGuard, orI_run h0 h1 b1 b2, asV, Rep.agg])
theorem OpP.shrIu {m : Int} {n : UInt64} (hx : EvA C σ H x (.v m)) (hy : EvA C σ H y (.v n)) (h1 : n.toNat < 64) (k : K (.v (m >>> n.toNat))) : OpP P N C ⟨d, .binOp .shr T x y T2, ty, ps, af, g⟩ σ H K :=
  .vk k (fun ρ I L hs => by
    have hm := (hx.int hs).2
    refine .mk ⟨_, ⟨rfl, ?_, ?_⟩, rfl⟩ fun a w ha hm => by
      have e := shrI_run T m .u64 n.toNat h1
      simp only [execOp, ha.ev (hx.int hs).1, ha.ev (hy.by64 hs), eqGuard]
      simp [Fl.u64, e, asV, Rep.agg]
    · rw [Int.shiftRight_eq_div_pow]
      rcases Int.le_total 0 m with h | h
      · have := Int.ediv_nonneg h (Int.natCast_nonneg (2 ^ n.toNat)); omega
      · have h2 : (1 : Int) ≤ ((2 ^ n.toNat : Nat) : Int) := Int.natCast_pos.2 (Nat.two_pow_pos _)
        have := Int.le_ediv_of_mul_le (a := m) (b := m) (c := ((2 ^ n.toNat : Nat) : Int)) (by omega) (by have := Int.mul_le_mul_of_nonpos_left h h2; omega)
        omega
    · rw [Int.shiftRight_eq_div_pow]
      rcases Int.le_total 0 m with h | h
      · have := Int.ediv_le_self ((2 ^ n.toNat : Nat) : Int) h; omega
      · have h2 : (0 : Int) < ((2 ^ n.toNat : Nat) : Int) := Int.natCast_pos.2 (Nat.two_pow_pos _)
        have := Int.ediv_lt_of_lt_mul (a := m) (b := 1) h2 (by omega); omega)
theorem lay_a {dd : TypeDesc} {b : Bool} (h : P.underlying T = some dd) (hb : isRow dd = b) : ∀ w, (isAgg T).run P w = .ok b w := fun w => hb ▸ run_isAgg h w
theorem lay_z {n : Nat} (h : (P.info? T).map (·.size) = some n) : ∀ w, (Go.sizeOf T).run P w = .ok n w := fun w => SizeIs.run h w
theorem lay_v {v : Value} (h : (P.info? T).bind (·.zero) = some v) : ∀ w, (zeroValue T).run P w = .ok v w := fun w => by
  cases hq : P.info? T with
  | none => simp [hq] at h
  | some i => simp [hq] at h; simp [zeroValue, typeInfo, hq, h]
theorem OpH.callMN {C : Ctx} {σ : AEnv} {H : AHeap} {args : Array Operand} {tys : Array TypeId} {f : FuncId} {G : Gl} {ags : List AV} (hG : G.p C.I0) {α : Type} {r0 : Rep α} {wd : Value} {x : α} {post : AV → List Blk → Prop} {K : AV → AHeap → Prop} {b : Bool} {F : Bool × Blk → AHeap}
    (h : FunH G P f ags [.ob wd x] post) (hH : Hole H (b, .ob wd x) F) (hv : EvAs C σ H args.toList ags)
    (hshape : ∀ r Hs, post r Hs → ∃ Bn, ∃ x' : α, Hs = [Bn, .ob wd x']) (k : ∀ r Bn B', post r [Bn, B'] → K r ((true, Bn) :: F (b, B'))) : OpH P C N ⟨d, .call ⟨.value (.func f), args, tys⟩, ty, ps, af, g⟩ σ H K := fun ρ I L hs => by
  obtain ⟨vs, h1, h2⟩ := hv.get hs
  obtain ⟨i, X, h3, h4, h5⟩ := hH.get hs.heap
  have hM := h I [X] vs (G.mono hs.im0 hG) h2 ⟨X, [], rfl, h4.1, rfl⟩
  have hM2 : FunM P f vs.toArray I [X] (fun v J L' => ∃ cn c' r Bn, ∃ x' : α, L' = [cn ++ c'] ∧ RepV J r v ∧ Bn.brep J cn ∧ (Blk.ob wd x').brep J c' ∧ post r [Bn, .ob wd x']) := ⟨hM.ok, fun w hm => (hM.run w hm).mono (by
    rintro e w' ⟨v, J, L', rfl, q1, q2, q3, q4, q5, r, Hs, q6, q7, q8⟩
    obtain ⟨Bn, x', rfl⟩ := hshape r Hs q8
    obtain ⟨cn, R, rfl, q9, c', R2, rfl, q10, q11⟩ := q7
    have q11' : R2 = [] := q11
    subst q11'
    have e : ([cn ++ c'] : Lh).flatten = ([cn, c'] : Lh).flatten := by simp
    exact ⟨v, J, [cn ++ c'], rfl, q1, q2, q3, ⟨q4.im, by rw [e]; exact q4.loc, by rw [e]; exact q4.sep, by rw [e]; exact q4.nodup⟩, by rw [e]; exact q5, cn, c', r, Bn, x', rfl, q6, q9, q10, q8⟩)⟩
  intro a w0 ha hst
  refine (OpS.callM' (K := fun v J L' => ∃ cn c' r Bn, ∃ x' : α, L' = L.set i (cn ++ c') ∧ Le I J ∧ RepV J r v ∧ Bn.brep J cn ∧ (Blk.ob wd x').brep J c' ∧ post r [Bn, .ob wd x'] ∧ (∀ p ∈ cn ++ c', C.w0.heap.size ≤ p.1 ∨ p.1 ∈ X.map Prod.fst)) i h3 rfl h1 hM2 ?_ ?_ a w0 ha hst).mono ?_
  · rintro v J c2 w hle ⟨cn, c', r, Bn, x', e, q6, q9, q10, q8⟩ hnew hsz
    obtain rfl : c2 = cn ++ c' := by simpa using e
    exact ⟨cn, c', r, Bn, x', rfl, hle, q6, q9, q10, q8, fun p hp => (hnew p hp).imp (fun h => Nat.le_trans hsz h) id⟩
  · rintro v J L' ⟨cn, c', r, Bn, x', e, _⟩
    exact ⟨_, e⟩
  · rintro v w' ⟨J, L', hst', cn, c', r, Bn, x', rfl, hle, q6, q9, q10, q8, hnew⟩
    have hi : i < L.length := (List.getElem?_eq_some_iff.1 h3).1
    obtain ⟨s1, s2⟩ := split_at L i X h3 (cn ++ c')
    obtain ⟨_, s3⟩ := split_at L i X h3 c'
    have hperm : (cn :: L.set i c').flatten.Perm (L.set i (cn ++ c')).flatten := by
      rw [s2, List.flatten_cons, s3, List.append_assoc cn c']
      have e1 : cn ++ ((List.take i L).flatten ++ (c' ++ (List.drop (i + 1) L).flatten)) = (cn ++ (List.take i L).flatten) ++ (c' ++ (List.drop (i + 1) L).flatten) := by simp
      have e2 : (List.take i L).flatten ++ (cn ++ (c' ++ (List.drop (i + 1) L).flatten)) = ((List.take i L).flatten ++ cn) ++ (c' ++ (List.drop (i + 1) L).flatten) := by simp
      rw [e1, e2]
      exact List.Perm.append_right _ List.perm_append_comm
    have hst2 := stPerm hst' hperm
    obtain ⟨bw, T, cs, e1, e2, _⟩ := q10
    obtain ⟨bw2, T2, cs2, e3, e4, _⟩ := h4.1
    have ebw : bw2 = bw := by rw [e1] at e3; simpa [ptr] using e3.symm
    have hfresh : ∀ p ∈ cn, C.w0.heap.size ≤ p.1 := fun p hp => by
      rcases hnew p (List.mem_append_left _ hp) with h | h
      · exact h
      · exfalso
        rw [e4] at h
        simp only [List.map_cons, List.map_nil, List.mem_singleton] at h
        have hnd := hst2.mem.nodup
        rw [List.flatten_cons, s3, List.map_append, List.nodup_append] at hnd
        refine hnd.2.2 p.1 (List.mem_map_of_mem hp) p.1 ?_ rfl
        rw [h, ebw, e2]; simp
    refine ⟨J, cn :: L.set i c', hst2, hle, r, (true, Bn) :: F (b, .ob wd x'), q6, ⟨cn, L.set i c', rfl, ⟨q9, fun _ p hp => hfresh p hp⟩, h5 J (b, .ob wd x') c' hle ⟨⟨bw, T, cs, e1, e2, by assumption⟩, fun hb p hp => ?_⟩⟩, k r Bn _ q8⟩
    rw [e2] at hp
    simp only [List.mem_singleton] at hp
    subst hp
    have := h4.2 hb (bw2, row cs2 T2) (by rw [e4]; simp)
    rw [← ebw]; exact this
theorem FunH.frzT {G : Gl} {P : Program} {f : FuncId} {ags : List AV} {E : TypeId} {α : Type} [r : Rep α] {l : List α} {b : AV} (h : FunH G P f ags [] (fun r Hs => ∃ u, r = .t2 (.raw u) b ∧ Hs = [.own E u l])) : FunA G P f ags (fun r => r = .t2 (.v l) b) := fun I vs hG hvs => by
  have hM := h I [] vs hG hvs rfl
  refine ⟨hM.ok, fun w hm => (hM.run w hm).mono ?_⟩
  rintro e w' ⟨v, J, L', rfl, q1, q2, q3, q4, q5, r, Hs', q6, q7, u, rfl, rfl⟩
  obtain ⟨X, R, rfl, q8, q9⟩ := q7
  have q9' : R = [] := q9
  subst q9'
  obtain ⟨x, y, rfl, q6', q6b⟩ := q6
  have q6'' : x = u := q6'
  subst q6''
  have hle : Le J (J.with X) := Im.with_le fun p hp => q4.sep p (by simpa using hp)
  refine ⟨_, J.with X, rfl, by simpa using q1, q2.trans hle, fun b h0 h1 => ?_, (q4.freeze (i := 0) (c := X) rfl).drop, .t2 (.v l) b, ⟨x, y, rfl, freeze_own q8 hle (fun p hp => Im.with_mem (by simpa using q4.nodup) hp), q6b.mono hle⟩, rfl⟩
  cases hj : J.with X b with
  | none => exact absurd hj h1
  | some o =>
    rcases Im.with_some hj with h2 | h2
    · rcases q5 (b, o) (by simpa using h2) with h3 | h3
      · exact h3
      · cases h3
    · exact q3 b h0 (by simp [h2])
end Go.Ab
set_option linter.unusedVariables false
set_option linter.unusedSimpArgs false
namespace Go.Ab
open Go.Fl Go.RowKit Go.Shelf Go.Proofs
open Rep (rep)
theorem Chg.of_below {w w' : World} (h : Below w.heap.size w w') : Chg [] w w' := ⟨h.os, h.tape, h.output, h.size, fun k hk _ => h.block k hk⟩
theorem fresh_bytes {I : Im} {w w' : World} {v : Value} {l : List UInt8} (hm : Mem I [] w) (hb : Below w.heap.size w w') (hf : Lib.FreshBytes w.heap.size w' v l) :
    ∃ J, Le I J ∧ NewIm w.heap.size I J ∧ Mem J [] w' ∧ RepV J (.v l) v := by
  obtain ⟨g, cap, zs, rfl, hg, hlc, hcm, hz, h256, hl, hc, -⟩ := hf
  have hlt : ∀ b o, I b = some o → b < w.heap.size := fun b o h => lt_of_get (hm.im b o h)
  have him : ∀ b o, I b = some o → w'.heap[b]? = some o := fun b o h => (hb.block b (hlt b o h)).trans (hm.im b o h)
  have hIg : I g = none := by
    cases h : I g with
    | none => rfl
    | some o => have := hlt g o h; omega
  refine ⟨fun b => if b = g then w'.heap[g]? else I b, fun b o h => ?_, fun b h0 h1 => ?_, ⟨fun b o h => ?_, by simp, by simp, by simp⟩, [_], ⟨_, rfl, bytesV l, ⟨some ⟨g, 0, none⟩, cap, rfl, by simp [bytesV, Rep.size], hlc, hcm, by simp, fun hx => ⟨g, 0, rfl, ?_⟩⟩, repL_u8.2 rfl⟩, rfl⟩
  · by_cases e : b = g
    · subst e; rw [hIg] at h; cases h
    · simp only [if_neg e]; exact h
  · by_cases e : b = g
    · subst e; exact hg
    · simp only [if_neg e] at h1; exact absurd h0 h1
  · by_cases e : b = g
    · subst e; simpa using h
    · simp only [if_neg e] at h; exact him b o h
  · have h0 : 0 < l.length := by
      cases l with
      | nil => exact absurd rfl hx
      | cons => simp
    have h1 := hc 0 (by omega)
    unfold World.cell? at h1
    cases hh : w'.heap[g]? with
    | none => simp only [hh] at h1; cases h1
    | some o =>
      cases o with
      | cells cs e fr =>
        refine ⟨cs, e, fr, by simp [hh], fun i v hv => ?_⟩
        have hi : i < l.length := by
          have := (List.getElem?_eq_some_iff.1 hv).1
          simpa [bytesV] using this
        have h2 := hc i (by omega)
        unfold World.cell? at h2
        simp only [hh, Option.isSome_none, Bool.false_eq_true, if_false] at h2
        rw [Nat.zero_add, h2, ← hv]
        have hzi : i < zs.length := by omega
        have hb := h256 zs[i] (List.getElem_mem hzi)
        have e1 : l[i]? = some (UInt8.ofNat zs[i].toNat) := by
          rw [← hl, Lib.bytesOf, List.getElem?_map, List.getElem?_take_of_lt hi, List.getElem?_eq_getElem hzi]; rfl
        rw [bytesV, List.getElem?_map, e1]
        simp only [Option.map_some, Fl.u8, List.getD_eq_getElem?_getD, List.getElem?_eq_getElem hzi, Option.getD_some]
        congr 2
        simp only [UInt8.toNat_ofNat']
        omega
      | _ => simp only [hh] at h1; cases h1
theorem holds_bytes {I : Im} {L : Lh} {w : World} {u : Value} {l : List UInt8} (hm : Mem I L w) (h : SlA I u l) : Lib.HoldsBytes w u l := by
  obtain ⟨xs, ⟨a, c, rfl, hl, hnc, hcm, hnil, hx⟩, hr⟩ := h
  obtain rfl := repL_u8.1 hr
  refine ⟨a, c, rfl, fun e => ?_, fun b hb i x hi => ?_⟩
  · have := hnil e
    exact List.length_eq_zero_iff.1 (by omega)
  · have hne : bytesV l ≠ [] := by
      intro e
      have : l = [] := by simpa [bytesV] using e
      subst this; cases hi
    obtain ⟨b', o, e, hc⟩ := hx hne
    rw [hb] at e
    obtain rfl := Option.some.inj e
    rw [Lib.add_plain2]
    exact hc.cell hm (by rw [bytesV, List.getElem?_map, hi]; rfl)
theorem parts_at {I : Im} {L : Lh} {w : World} {b o : Nat} (hm : Mem I L w) : ∀ {ls : List (List UInt8)} {xs : List Value}, repL I ls xs → Cells I b o xs → Lib.PartsAt w ⟨b, o, none⟩ xs ls := fun {ls xs} h hc => by
  have hlen : xs.length = ls.length := by have := h.len; simpa [Rep.size] using this
  refine ⟨hlen, fun i v hv => by rw [Lib.add_plain2]; exact hc.cell hm hv, fun i v l hv hl => ?_⟩
  have hi : i < ls.length := (List.getElem?_eq_some_iff.1 hl).1
  have hg := h.get i hi
  obtain ⟨u, e, hu⟩ := hg
  have e2 : ls[i] = l := (List.getElem?_eq_some_iff.1 hl).2
  have e3 : u = v := by
    have : (segGet xs (i * Rep.size (List UInt8)) (Rep.size (List UInt8)))[0]? = some u := by rw [e]; rfl
    simp only [segGet, Rep.size, Nat.mul_one] at this
    rw [List.getElem?_take_of_lt (by omega), List.getElem?_drop, Nat.add_zero, hv] at this
    exact (Option.some.inj this).symm
  subst e3; subst e2
  exact holds_bytes hm hu
theorem join_flatten (ls : List (List UInt8)) : Lib.join ls [] = ls.flatten := by
  cases ls with
  | nil => rfl
  | cons x r => rw [Lib.join_cons, Lib.joinTail]; simp
theorem joinNil_c {G : Gl} {P : Program} {ρ : Ren} (L : SlLaysJ.n14 P ρ) (hok : CallOk P (ρ.f 14)) (ls : List (List UInt8)) (h2 : 2 ≤ ls.length) (hn : ls.length ≤ 140737488355328) (hlen : Lib.lens ls ≤ 140737488355328) :
    FunA G P (ρ.f 14) [.v ls, .v ([] : List UInt8)] (fun r => r = .v ls.flatten) := fun I vs hG hv => by
  obtain ⟨u1, _, rfl, ⟨_, ⟨v1, rfl, hs⟩, rfl⟩, u2, _, rfl, ⟨_, ⟨v2, rfl, hs2⟩, rfl⟩, rfl⟩ := hv
  refine ⟨hok, fun w hm => ?_⟩
  have hS := holds_bytes hm hs2
  obtain ⟨xs, ⟨a, c, rfl, hl, hnc, hcm, hnil, hx⟩, hr⟩ := hs
  obtain ⟨b, o, rfl, hc⟩ := hx (fun e => by
    have := hr.len
    rw [e] at this
    simp [Rep.size] at this
    omega)
  refine (Any.bytes_Join_many L b o ls.length c xs ls _ [] w rfl h2 (parts_at hm hr hc) hnc hS hn (by simpa using hlen)).mono ?_
  rintro e w' ⟨v', rfl, hf, hb⟩
  obtain ⟨J, h1, h3, h4, h5⟩ := fresh_bytes hm hb hf
  exact ⟨v', J, rfl, Chg.of_below hb, h1, h3, h4, _, h5, by rw [join_flatten]⟩
end Go.Ab
set_option maxRecDepth 1000000
set_option linter.unusedVariables false
set_option linter.unusedSimpArgs false
namespace Go.Proofs.YtiekhjbhlekaeaaDoor
open Go.Fl Go.Ab Go.Mac Go.Sha
def numL (n : Nat) : List UInt8 := if n < 128 then [UInt8.ofNat n] else UInt8.ofNat (n % 128 + 128) :: numL (n / 128)
termination_by n
theorem numL_lt {n : Nat} (h : n < 128) : numL n = [UInt8.ofNat n] := by rw [numL, if_pos h]
theorem numL_ge {n : Nat} (h : ¬ n < 128) : numL n = UInt8.ofNat (n % 128 + 128) :: numL (n / 128) := by rw [numL, if_neg h]
theorem numL_length (k n : Nat) (h : n < 128 ^ (k + 1)) : (numL n).length ≤ k + 1 := by
  induction k generalizing n with
  | zero => rw [numL_lt (by simpa using h)]; simp
  | succ k ih =>
    by_cases h1 : n < 128
    · rw [numL_lt h1]; simp
    · rw [numL_ge h1, List.length_cons]
      have := ih (n / 128) (by rw [Nat.pow_succ] at h; omega)
      omega
theorem numL_le7 {n : Nat} (h : n ≤ 281474976710656) : (numL n).length ≤ 7 := numL_length 6 n (by omega)
theorem numL_pos (n : Nat) : 0 < (numL n).length := by
  rw [numL]; split <;> simp
theorem and127 (n : Nat) : n &&& 127 = n % 128 := Nat.and_two_pow_sub_one_eq_mod n 7
theorem or128 {n : Nat} (h : n < 128) : n ||| 128 = n + 128 := by
  have := Nat.two_pow_add_eq_or_of_lt (i := 7) (b := n) (by simpa using h) 1
  rw [Nat.or_comm]; simpa [Nat.add_comm] using this.symm
theorem ofInt8_nat (n : Nat) : UInt8.ofInt (n : Int) = UInt8.ofNat n := by apply UInt8.toNat_inj.1; simp [UInt8.ofInt]; omega
def numBad (n : Int) : Bool := decide (n < 0) || decide (281474976710656 < n)
theorem numBad_false {n : Int} (h0 : 0 ≤ n) (h1 : n ≤ 281474976710656) : numBad n = false := by unfold numBad; simp; omega
theorem rNumber_own (n : Int) (h0 : 0 ≤ n) (h1 : n ≤ 281474976710656) : FunH gl Tryd.prog 79 [.v n] [] (fun r Hs => ∃ u, r = .raw u ∧ Hs = [.own 5 u (numL n.toNat)]) := by
  have hlen := numL_le7 (n := n.toNat) (by omega)
  refine FunH.introD Tryd.func79 rfl (by kernel_rfl) 20 rfl rfl _ rfl _ rfl fun C hC hG => ?_
  refine .seq ?_
  refine .region rfl ?_
  refine .p (.assign .raw ?_)
  refine .nil ?_
  refine .seq ?_
  refine .region rfl ?_
  refine .p (.assign .raw ?_)
  refine .nilOwn 5 UInt8 ?_
  refine .nil ?_
  refine .seq ?_
  refine .block ?_
  refine .loopR (α := Nat × Value × List UInt8) [] (fun x R => (0, .v (x.1 : Int)) :: (3, .raw x.2.1) :: R) (fun x => [(true, .own 5 x.2.1 x.2.2)]) (fun x => x.2.2 ++ numL x.1 = numL n.toNat) (fun x => x.1) ((n.toNat, .slice none 0 0, [])) (.nil _) ?_ (.cons (congrArg (fun q => some (AV.v q)) (by dsimp only; omega)) (.cons rfl (.nil _))) (rfl) fun x hF => ?_
  · rfl
  obtain ⟨k, w, l⟩ := x
  dsimp only at hF ⊢
  have hl9 := congrArg List.length hF
  rw [List.length_append] at hl9
  refine .seq ?_
  refine .seq ?_
  refine .region rfl ?_
  refine .p (.move (.t rfl) (.p (.gtr (.t rfl) (.i rfl) ?_)))
  refine .nil ?_
  refine .condP (.t rfl) (fun hc5 => ?_) (fun hc5 => ?_)
  · refine .skip ?_
    refine .block ?_
    refine .seq ?_
    refine .region rfl ?_
    refine .p (.move (.t rfl) (.p (.move (.t rfl) (.p (.rem (.t rfl) (.i rfl) (by first | omega | (simp; done) | (simp; omega) | (simp at *; omega)) (by first | omega | (simp; done) | (simp; omega) | (simp at *; omega)) (.p (.add (.t rfl) (.i rfl) (by first | omega | (simp; done) | (simp; omega) | (simp at *; omega)) (by first | omega | (simp; done) | (simp; omega) | (simp at *; omega)) (.p (.conv8 Tryd.underlying3 Tryd.underlying5 (.t rfl) (.h (.buildSlice (α := UInt8) ty5 Tryd.underlying23 (.cons (.t rfl) .nil) rfl (by decide) fun b11 => ?_)))))))))))
    refine .h (.append st23 (.inl ⟨_, Tryd.underlying23⟩) rfl (.s .z) (.own rfl .z) (by first | omega | (simp; done) | (simp; omega) | (simp at *; omega)) (by first | omega | (simp; done) | (simp; omega) | (simp at *; omega)) (fun w12 => .p (.assign (.t rfl) ?_)) rfl)
    refine .drop ?_
    refine .nil ?_
    refine .region rfl ?_
    refine .p (.move (.t rfl) (.p (.quo (.t rfl) (.i rfl) (by first | omega | (simp; done) | (simp; omega) | (simp at *; omega)) (by first | omega | (simp; done) | (simp; omega) | (simp at *; omega)) (.p (.assign (.t rfl) ?_)))))
    refine .nil ?_
    refine ⟨(k / 128, w12, _), .cons (congrArg (fun q => some (AV.v q)) (by dsimp only; omega)) (.cons rfl (.nil _)), rfl, ?_, by dsimp only; omega⟩
    dsimp only; rw [← hF, numL_ge (n := k) (by omega), List.append_assoc, show ((k : Int) % 128 + 128) = ((k % 128 + 128 : Nat) : Int) by omega, ofInt8_nat]; rfl
  · refine .exit ?_
    refine .seq ?_
    refine .region rfl ?_
    refine .p (.move (.t rfl) (.p (.move (.t rfl) (.p (.conv8 Tryd.underlying3 Tryd.underlying5 (.t rfl) (.h (.buildSlice (α := UInt8) ty5 Tryd.underlying23 (.cons (.t rfl) .nil) rfl (by decide) fun b18 => .h (.append st23 (.inl ⟨_, Tryd.underlying23⟩) rfl (.s .z) (.own rfl .z) (by first | omega | (simp; done) | (simp; omega) | (simp at *; omega)) (by first | omega | (simp; done) | (simp; omega) | (simp at *; omega)) (fun w19 => .p (.assign (.t rfl) ?_)) rfl))))))))
    refine .nil ?_
    refine .ret ?_
    refine ⟨_, .r1 rfl (.tmp rfl), ?_⟩
    exact ⟨1, _, rfl, by rw [← hF, numL_lt (n := k) (by omega), ← ofInt8_nat]; rfl⟩
theorem rNumber_c (n : Int) (h0 : 0 ≤ n) (h1 : n ≤ 281474976710656) : FunA gl Tryd.prog 79 [.v n] (fun r => r = .v (numL n.toNat)) := (rNumber_own n h0 h1).frzA
theorem sliceClone_own (b : List UInt8) (hb : b.length ≤ 1000000) : FunH gl Tryd.prog 101 [.v b] [] (fun r Hs => ∃ u, r = .raw u ∧ Hs = [.own 5 u b]) := by
  refine FunH.introS Tryd.func101 rfl (by kernel_rfl) 8 rfl rfl _ rfl _ rfl fun C hC hG => ?_
  refine .seq ?_
  refine .region rfl ?_
  refine .p (.assign .raw ?_)
  refine .nil ?_
  refine .seq ?_
  refine .seq ?_
  refine .region rfl ?_
  refine .p (.move (.t rfl) (.p (.eqNilS Tryd.underlying23 (.t rfl) fun c4 hn4 => ?_)))
  refine .nil ?_
  refine .cond (.t rfl) (fun hc4 => ?_) (fun hc4 => ?_)
  · refine .seq ?_
    refine .region rfl ?_
    refine .p (.assign .raw ?_)
    refine .nil ?_
    refine .nilOwn 5 UInt8 ?_
    refine .ret ?_
    refine ⟨_, .r1 rfl (.tmp rfl), ?_⟩
    refine ⟨_, .cons .z (.nil), ?_⟩
    rw [hn4 hc4]; exact ⟨_, rfl, rfl⟩
  · refine .skip ?_
    refine .seq ?_
    refine .region rfl ?_
    refine .h (.buildSlice (α := UInt8) ty5 Tryd.underlying23 .nil rfl (by decide) fun b5 => .p (.move (.t rfl) (.h (.append st23 (.inl ⟨_, Tryd.underlying23⟩) rfl .z (.v (.t rfl)) (by first | omega | (simp; done) | (simp; omega) | (simp at *; omega)) (by first | omega | (simp; done) | (simp; omega) | (simp at *; omega)) (fun w7 => .p (.assign (.t rfl) ?_)) rfl))))
    refine .nil ?_
    refine .ret ?_
    refine ⟨_, .r1 rfl (.tmp rfl), ?_⟩
    refine ⟨_, .cons .z (.nil), ?_⟩
    rw [List.nil_append]; exact ⟨w7, rfl, rfl⟩
theorem shr7 (k : Nat) : ((k : Int) >>> (7 : Nat)) = ((k / 128 : Nat) : Int) := by rw [Int.shiftRight_eq_div_pow]; rfl
theorem vrApp_own (b : List UInt8) (n : Int) (hb : b.length ≤ 900000) (h0 : 0 ≤ n) (h1 : n ≤ 281474976710656) : FunH gl Tryd.prog 75 [.v b, .v n] [] (fun r Hs => ∃ u, r = .t2 (.raw u) (.v (0 : Int)) ∧ Hs = [.own 5 u (b ++ numL n.toNat)]) := by
  have hlen := numL_le7 (n := n.toNat) (by omega)
  refine FunH.introD Tryd.func75 rfl (by kernel_rfl) 31 rfl rfl _ rfl _ rfl fun C hC hG => ?_
  refine .seq ?_
  refine .region rfl ?_
  refine .p (.assign .raw (.p (.assign (.i rfl) ?_)))
  refine .nil ?_
  refine .seq ?_
  refine .seq ?_
  refine .region rfl ?_
  refine .p (.move (.t rfl) (.p (.lss (.t rfl) (.i rfl) (.p (.move (.t rfl) ?_)))))
  refine .go 9 rfl (.t rfl) (fun hg10 => .move (.t rfl) rfl) ?_
  refine .go 9 rfl (.t rfl) (fun hg11 => .gtr (.o rfl (beq_iff_eq.2 hg11)) (.i rfl) rfl) ?_
  refine .p (.pickOr (.t rfl) (fun hp => (.o rfl (beq_iff_eq.2 hp))) ?_)
  refine .nil ?_
  refine .cond (.t rfl) (fun hc12 => (by exfalso; have hbad := numBad_false h0 h1; unfold numBad at hbad; rw [hbad] at hc12; cases hc12)) (fun hc12 => ?_)
  refine .skip ?_
  refine .seq ?_
  refine .region rfl ?_
  refine .p (.move (.t rfl) (.h (.call0 hG (sliceClone_own _ (by first | omega | (simp; done) | (simp; omega) | (simp at *; omega))) (.cons (.t rfl) .nil) fun r14 Hs14 hr14 => ?_)))
  obtain ⟨u14, rfl, rfl⟩ := hr14
  show wpB _ _ _ _ _ _ _ ((true, _) :: _)
  refine .p (.assign (.t rfl) ?_)
  refine .nil ?_
  refine .seq ?_
  refine .block ?_
  refine .loopR (α := Nat × Value × List UInt8) [] (fun x R => (1, .v (x.1 : Int)) :: (6, .raw x.2.1) :: R) (fun x => [(true, .own 5 x.2.1 x.2.2)]) (fun x => x.2.2 ++ numL x.1 = b ++ numL n.toNat) (fun x => x.1) ((n.toNat, u14, b)) (.nil _) ?_ (.cons (congrArg (fun q => some (AV.v q)) (by dsimp only; omega)) (.cons rfl (.nil _))) (rfl) fun x hF => ?_
  · rfl
  obtain ⟨k, w, l⟩ := x
  dsimp only at hF ⊢
  have hl9 := congrArg List.length hF
  rw [List.length_append, List.length_append] at hl9
  have hk9 := numL_pos k
  refine .seq ?_
  refine .seq ?_
  refine .region rfl ?_
  refine .p (.move (.t rfl) (.p (.geq (.t rfl) (.i rfl) ?_)))
  refine .nil ?_
  refine .condP (.t rfl) (fun hc16 => ?_) (fun hc16 => ?_)
  · refine .skip ?_
    refine .seq ?_
    refine .block ?_
    have hb6 := and127 k; have hc6 : k % 128 < 128 := Nat.mod_lt _ (by decide)
    refine .region rfl ?_
    refine .p (.move (.t rfl) (.p (.move (.t rfl) (.p (.andI (.t rfl) (.i rfl) (by first | omega | (simp; done) | (simp; omega) | (simp at *; omega)) (by first | omega | (simp; done) | (simp; omega) | (simp at *; omega)) (.p (.orI (.t rfl) (.i rfl) (by first | omega | (simp; done) | (simp; omega) | (simp at *; omega)) (by first | omega | (simp; done) | (simp; omega) | (simp at *; omega)) (.p (.conv8 Tryd.underlying3 Tryd.underlying5 (.t rfl) (.h (.buildSlice (α := UInt8) ty5 Tryd.underlying23 (.cons (.t rfl) .nil) rfl (by decide) fun b24 => ?_)))))))))))
    refine .h (.append st23 (.inl ⟨_, Tryd.underlying23⟩) rfl (.s .z) (.own rfl .z) (by first | omega | (simp; done) | (simp; omega) | (simp at *; omega)) (by first | omega | (simp; done) | (simp; omega) | (simp at *; omega)) (fun w25 => .p (.assign (.t rfl) ?_)) rfl)
    refine .drop ?_
    refine .nil ?_
    refine .region rfl ?_
    refine .p (.move (.t rfl) (.p (.shrIu (.t rfl) (.u64 7 rfl) (by decide) (.p (.assign (.t rfl) ?_)))))
    refine .nil ?_
    refine ⟨(k / 128, w25, _), .cons (congrArg (fun q => some (AV.v q)) (shr7 k)) (.cons rfl (.nil _)), rfl, ?_, by dsimp only; omega⟩
    dsimp only; rw [← hF, numL_ge (n := k) (by omega), List.append_assoc]; show l ++ ([UInt8.ofInt (((k &&& 127) ||| 128 : Nat) : Int)] ++ numL (k / 128)) = _; rw [and127, or128 (Nat.mod_lt _ (by decide)), ofInt8_nat]; rfl
  · refine .exit ?_
    refine .seq ?_
    refine .region rfl ?_
    refine .p (.move (.t rfl) (.p (.move (.t rfl) (.p (.conv8 Tryd.underlying3 Tryd.underlying5 (.t rfl) (.h (.buildSlice (α := UInt8) ty5 Tryd.underlying23 (.cons (.t rfl) .nil) rfl (by decide) fun b29 => .h (.append st23 (.inl ⟨_, Tryd.underlying23⟩) rfl (.s .z) (.own rfl .z) (by first | omega | (simp; done) | (simp; omega) | (simp at *; omega)) (by first | omega | (simp; done) | (simp; omega) | (simp at *; omega)) (fun w30 => .p (.assign (.t rfl) ?_)) rfl))))))))
    refine .p (.assign (.i rfl) ?_)
    refine .nil ?_
    refine .ret ?_
    refine ⟨_, .r2 rfl (.tmp rfl) (.tmp rfl), ?_⟩
    exact ⟨1, _, rfl, by rw [← hF, numL_lt (n := k) (by omega), ← ofInt8_nat]; rfl⟩
theorem field_own (b x : List UInt8) (hb : b.length ≤ 800000) (hx : x.length ≤ 1024) : FunH gl Tryd.prog 76 [.v b, .v x] [] (fun r Hs => ∃ u, r = .t2 (.raw u) (.v (0 : Int)) ∧ Hs = [.own 5 u (b ++ numL x.length ++ x)]) := by
  have hlen := numL_le7 (n := x.length) (by omega)
  refine FunH.introS Tryd.func76 rfl (by kernel_rfl) 22 rfl rfl _ rfl _ rfl fun C hC hG => ?_
  refine .seq ?_
  refine .region rfl ?_
  refine .p (.assign (.nilS (α := UInt8)) (.p (.assign (.i rfl) ?_)))
  refine .nil ?_
  refine .seq ?_
  refine .seq ?_
  refine .region rfl ?_
  refine .p (.move (.t rfl) (.p (.len Tryd.underlying23 (.t rfl) (.p (.gtr (.t rfl) (.i rfl) ?_)))))
  refine .nil ?_
  refine .condP (.t rfl) (fun hc10 => (by exfalso; omega)) (fun hc10 => ?_)
  refine .skip ?_
  refine .seq ?_
  refine .region rfl ?_
  refine .p (.move (.t rfl) (.p (.move (.t rfl) (.p (.len Tryd.underlying23 (.t rfl) (.h (.call0 hG (vrApp_own _ _ (by first | omega | (simp; done) | (simp; omega) | (simp at *; omega)) (by first | omega | (simp; done) | (simp; omega) | (simp at *; omega)) (by first | omega | (simp; done) | (simp; omega) | (simp at *; omega))) (.cons (.t rfl) (.cons (.t rfl) .nil)) fun r15 Hs15 hr15 => ?_)))))))
  obtain ⟨u15, rfl, rfl⟩ := hr15
  show wpB _ _ _ _ _ _ _ ((true, _) :: _)
  refine .p (.move (.t rfl) (.p (.ext2_0 (.t rfl) (.p (.ext2_1 (.t rfl) (.p (.assign (.t rfl) (.p (.assign (.t rfl) ?_)))))))))
  refine .nil ?_
  refine .seq ?_
  refine .region rfl ?_
  refine .p (.move (.t rfl) (.p (.move (.t rfl) (.h (.append st23 (.inl ⟨_, Tryd.underlying23⟩) rfl .z (.v (.t rfl)) (by first | omega | (simp; done) | (simp; omega) | (simp at *; omega)) (by first | omega | (simp; done) | (simp; omega) | (simp at *; omega)) (fun w20 => .p (.move (.t rfl) (.p (.assign (.t rfl) (.p (.assign (.t rfl) ?_)))))) rfl)))))
  refine .nil ?_
  refine .ret ?_
  refine ⟨_, .r2 rfl (.tmp rfl) (.tmp rfl), ?_⟩
  refine ⟨_, .cons .z (.nil), ?_⟩
  exact ⟨_, rfl, rfl⟩
theorem field_c (b x : List UInt8) (hb : b.length ≤ 800000) (hx : x.length ≤ 1024) : FunA gl Tryd.prog 76 [.v b, .v x] (fun r => r = .t2 (.v (b ++ numL x.length ++ x)) (.v (0 : Int))) := (field_own b x hb hx).frzT
theorem rField_own (x : List UInt8) (hx : x.length ≤ 1000000) : FunH gl Tryd.prog 80 [.v x] [] (fun r Hs => ∃ u, r = .raw u ∧ Hs = [.own 5 u (numL x.length ++ x)]) := by
  have hlen := numL_le7 (n := x.length) (by omega)
  refine FunH.introS Tryd.func80 rfl (by kernel_rfl) 8 rfl rfl _ rfl _ rfl fun C hC hG => ?_
  refine .seq ?_
  refine .region rfl ?_
  refine .p (.assign (.nilS (α := UInt8)) ?_)
  refine .nil ?_
  refine .seq ?_
  refine .region rfl ?_
  refine .p (.move (.t rfl) (.p (.len Tryd.underlying23 (.t rfl) (.h (.call0 hG (rNumber_own _ (by first | omega | (simp; done) | (simp; omega) | (simp at *; omega)) (by first | omega | (simp; done) | (simp; omega) | (simp at *; omega))) (.cons (.t rfl) .nil) fun r5 Hs5 hr5 => ?_)))))
  obtain ⟨u5, rfl, rfl⟩ := hr5
  show wpB _ _ _ _ _ _ _ ((true, _) :: _)
  refine .p (.move (.t rfl) (.h (.append st23 (.inl ⟨_, Tryd.underlying23⟩) rfl .z (.v (.t rfl)) (by first | omega | (simp; done) | (simp; omega) | (simp at *; omega)) (by first | omega | (simp; done) | (simp; omega) | (simp at *; omega)) (fun w7 => .p (.assign (.t rfl) ?_)) rfl)))
  refine .nil ?_
  refine .ret ?_
  refine ⟨_, .r1 rfl (.tmp rfl), ?_⟩
  refine ⟨_, .cons .z (.nil), ?_⟩
  exact ⟨_, rfl, rfl⟩
theorem rField_c (x : List UInt8) (hx : x.length ≤ 1000000) : FunA gl Tryd.prog 80 [.v x] (fun r => r = .v (numL x.length ++ x)) := (rField_own x hx).frzA
end Go.Proofs.YtiekhjbhlekaeaaDoor
set_option maxRecDepth 1000000
set_option linter.unusedVariables false
set_option linter.unusedSimpArgs false
namespace Go.Proofs.YtiekhjbhlekaeaaDoor
open Go.Fl Go.Ab Go.Mac Go.Sha
theorem algLook_c (a : Alg) (k : Tag) (m : List UInt8) : FunA gl Tryd.prog 25 [.v a, .v k, .v m] (fun r => r = .t2 (.v (algLook a k m).1) (.v (algLook a k m).2)) := by
  refine FunA.intro Tryd.func25 rfl (by kernel_rfl) 32 rfl rfl _ rfl fun C hC hG => ?_
  refine .seq ?_
  refine .region rfl ?_
  refine .h (.box (.t rfl) fun b3 => .h (.box (.t rfl) fun b4 => .h (.alloc ty28 fun b6 => .p (.assign .b ?_))))
  refine .nil ?_
  refine .seq ?_
  refine .seq ?_
  refine .frzOb hC (.s .z) ?_
  refine .asP 4 rfl (.s .z) ?_
  refine .frzOb hC (.s (.s .z)) ?_
  refine .asP 3 rfl (.s (.s .z)) ?_
  refine .region rfl ?_
  refine .p (.fldPF G_api_Algebra.l0 (fun x => x.Free) fd32_0 rfl (fun _ => rfl) (.t rfl) (.p (.ldP ty4 (.t rfl) ?_)))
  refine .nil ?_
  refine .cond (.t rfl) (fun hc10 => ?_) (fun hc10 => ?_)
  · refine .seq ?_
    refine .region rfl ?_
    refine .p (.fldPF G_api_Algebra.l3 (fun x => x.Macs) fd32_3 rfl (fun _ => rfl) (.t rfl) (.p (.ldP ty29 (.t rfl) (.p (.ldP ty28 (.t rfl) (.p (.move (.t rfl) (.p (.call1 hG (find_c _ _ _) (.cons (.t rfl) (.cons (.t rfl) (.cons (.t rfl) .nil))) (.p (.assign (.t rfl) ?_)))))))))))
    refine .nil ?_
    refine .seq ?_
    refine .seq ?_
    refine .region rfl ?_
    refine .p (.move (.t rfl) (.p (.lss (.t rfl) (.i rfl) ?_)))
    refine .nil ?_
    refine .condP (.t rfl) (fun hc17 => ?_) (fun hc17 => ?_)
    · refine .seq ?_
      refine .region rfl ?_
      refine .p (.buildA (default : (Arr 32 UInt8)) ty28 ar28 .nil rfl (.n (.stW ty28 (.t rfl) (.t rfl) .z (.p (.assign .b ?_)))))
      refine .nil ?_
      refine .ret ?_
      refine ⟨_, .r2 rfl (.cell ty28 rfl .z) (.tmp rfl), ?_⟩
      have e : algLook a k m = (default, false) := by unfold algLook algEntry algFind; rw [if_pos hc10, idx_neg (by omega)]
      rw [e]
    · refine .skip ?_
      refine .seq ?_
      have hi7 : 0 ≤ idx a.Macs (macEq k m) := by simp at hc17; omega
      have hl7 := idx_lt hi7
      refine .region rfl ?_
      refine .p (.fldPF G_api_Algebra.l3 (fun x => x.Macs) fd32_3 rfl (fun _ => rfl) (.t rfl) (.p (.ldP ty29 (.t rfl) (.p (.move (.t rfl) (.p (.idx ty38 Tryd.underlying29 (.t rfl) (.t rfl) (by first | omega | (simp; done) | (simp; omega) | (simp at *; omega)) (by first | omega | (simp; done) | (simp; omega) | (simp at *; omega)) (.p (.fldPF G_api_Mac.l2 (fun x => x.Tag) fd38_2 rfl (fun _ => rfl) (.t rfl) (.p (.ldP ty28 (.t rfl) ?_)))))))))))
      refine .n (.stW ty28 (.t rfl) (.t rfl) .z (.p (.assign .b ?_)))
      refine .nil ?_
      refine .ret ?_
      refine ⟨_, .r2 rfl (.cell ty28 rfl .z) (.tmp rfl), ?_⟩
      have e : algLook a k m = (a.Macs[(idx a.Macs (macEq k m)).toNat].Tag, true) := by unfold algLook algEntry algFind; rw [if_pos hc10, idx_get hi7 (by omega)]
      rw [e]
  · refine .skip ?_
    refine .seq ?_
    refine .seq ?_
    refine .region rfl ?_
    refine .p (.move (.t rfl) (.p (.len Tryd.underlying23 (.t rfl) (.p (.gtr (.t rfl) (.i rfl) ?_)))))
    refine .nil ?_
    refine .condP (.t rfl) (fun hc27 => ?_) (fun hc27 => ?_)
    · refine .seq ?_
      refine .region rfl ?_
      refine .p (.buildA (default : (Arr 32 UInt8)) ty28 ar28 .nil rfl (.n (.stW ty28 (.t rfl) (.t rfl) .z (.p (.assign .b ?_)))))
      refine .nil ?_
      refine .ret ?_
      refine ⟨_, .r2 rfl (.cell ty28 rfl .z) (.tmp rfl), ?_⟩
      have e : algLook a k m = (default, false) := by unfold algLook; rw [if_neg (by rw [show a.Free = false from hc10]; decide), if_pos (by omega)]
      rw [e]
    · refine .skip ?_
      refine .seq ?_
      refine .region rfl ?_
      refine .p (.slArrP (by decide) ar28 (.t rfl) (.p (.move (.t rfl) (.p (.call1 hG (hmacOf_c _ _ (by first | omega | (simp; done) | (simp; omega) | (simp at *; omega)) (by first | omega | (simp; done) | (simp; omega) | (simp at *; omega))) (.cons (.t rfl) (.cons (.t rfl) .nil)) (.n (.stW ty28 (.t rfl) (.t rfl) .z (.p (.assign .b ?_)))))))))
      refine .nil ?_
      refine .ret ?_
      refine ⟨_, .r2 rfl (.cell ty28 rfl .z) (.tmp rfl), ?_⟩
      have e : algLook a k m = (hmac k.l m, true) := by unfold algLook; rw [if_neg (by rw [show a.Free = false from hc10]; decide), if_neg (by omega)]
      rw [e]
end Go.Proofs.YtiekhjbhlekaeaaDoor
set_option maxRecDepth 1000000
set_option linter.unusedVariables false
set_option linter.unusedSimpArgs false
namespace Go.Proofs.YtiekhjbhlekaeaaDoor
open Go.Fl Go.Ab Go.Mac Go.Sha
def joinRen : Go.Shelf.Ren where
  f n := if n = 14 then 78 else 102
  t n := match n with | 0 => 0 | 3 => 3 | 4 => 4 | 5 => 5 | 9 => 9 | 20 => 20 | 22 => 23 | 26 => 36 | _ => 0
  g n := n
set_option maxRecDepth 100000 in
theorem joinL : SlLaysJ.n14 Tryd.prog joinRen where
  mixed := by kernel_rfl
  f14 := by kernel_rfl
  f15 := by kernel_rfl
  t0 := by kernel_rfl
  a0 := lay_a Tryd.underlying0 rfl
  z0 := lay_z (by kernel_rfl)
  v0 := lay_v (by kernel_rfl)
  t3 := by kernel_rfl
  a3 := lay_a Tryd.underlying3 rfl
  z3 := lay_z (by kernel_rfl)
  v3 := lay_v (by kernel_rfl)
  t4 := by kernel_rfl
  a4 := lay_a Tryd.underlying4 rfl
  z4 := lay_z (by kernel_rfl)
  v4 := lay_v (by kernel_rfl)
  t9 := by kernel_rfl
  a9 := lay_a Tryd.underlying9 rfl
  z9 := lay_z (by kernel_rfl)
  v9 := lay_v (by kernel_rfl)
  t20 := by kernel_rfl
  a20 := lay_a Tryd.underlying20 rfl
  z20 := lay_z (by kernel_rfl)
  v20 := lay_v (by kernel_rfl)
  t22 := by kernel_rfl
  a22 := lay_a Tryd.underlying23 rfl
  z22 := lay_z (by kernel_rfl)
  v22 := lay_v (by kernel_rfl)
  t26 := by kernel_rfl
  a26 := lay_a Tryd.underlying36 rfl
  z26 := lay_z (by kernel_rfl)
  v26 := lay_v (by kernel_rfl)
  t5 := by kernel_rfl
  z5 := lay_z (by kernel_rfl)
  i5 := by kernel_rfl
theorem Join_c (ls : List (List UInt8)) (h2 : 2 ≤ ls.length) (hn : ls.length ≤ 1000000) (hl : Lib.lens ls ≤ 1000000000) : FunA gl Tryd.prog 78 [.v ls, .v ([] : List UInt8)] (fun r => r = .v ls.flatten) :=
  joinNil_c joinL ⟨_, Tryd.func78, by kernel_rfl, rfl⟩ ls h2 (by omega) (by omega)
theorem chainMsg_c (s : Str) (b : List UInt8) (hs : s.l.length ≤ 1000) (hb : b.length ≤ 1000000) : FunA gl Tryd.prog 77 [.v s, .v b] (fun r => r = .v (s.l ++ b)) := by
  refine FunA.intro Tryd.func77 rfl (by kernel_rfl) 9 rfl rfl _ rfl fun C hC hG => ?_
  refine .seq ?_
  refine .region rfl ?_
  refine .p (.assign (.nilS (α := UInt8)) ?_)
  refine .nil ?_
  refine .seq ?_
  refine .region rfl ?_
  refine .p (.move (.t rfl) (.h (.strBytes Tryd.underlying9 Tryd.underlying23 Tryd.underlying5 (.t rfl) fun w6 => .p (.move (.t rfl) (.h (.append st23 (.inl ⟨_, Tryd.underlying23⟩) rfl .z (.v (.t rfl)) (by first | omega | (simp; done) | (simp; omega) | (simp at *; omega)) (by first | omega | (simp; done) | (simp; omega) | (simp at *; omega)) (fun w8 => .p (.assign (.t rfl) ?_)) rfl))))))
  refine .nil ?_
  refine .frzOwn hC .z ?_
  refine .as 4 rfl .z ?_
  refine .ret ?_
  refine ⟨_, .r1 rfl (.tmp rfl), ?_⟩
  rfl
abbrev Item := G_api_Item
def itemErr (x : Item) : Int :=
  if x.Kind < 1 ∨ 3 < x.Kind then 6
  else if (x.Kind ≠ 1 ∧ 0 < x.Box.length) ∨ (x.Kind = 3 ∧ x.Number ≠ 0) ∨ (x.Kind ≠ 3 ∧ x.Node ≠ default) then 9
  else if x.Place < 1 ∨ 4096 < x.Place ∨ (x.Kind ≠ 3 ∧ (x.Number < 1 ∨ 1000 < x.Number)) then 1
  else if x.Kind = 1 ∧ (x.Box.length < 1 ∨ 1024 < x.Box.length) then 2 else 0
def itemStr : Str := ⟨[105, 116, 101, 109]⟩
def itemBytes (x : Item) : List UInt8 := itemStr.l ++ (numL x.Place.toNat ++ numL x.Kind.toNat ++ numL x.Number.toNat ++ x.Node.l ++ (numL x.Box.length ++ x.Box))
def itemMsg (x : Item) : List UInt8 × Int := if itemErr x ≠ 0 then ([], itemErr x) else (itemBytes x, 0)
structure ItemOk (x : Item) : Prop where
  kind : 1 ≤ x.Kind ∧ x.Kind ≤ 3
  place : 1 ≤ x.Place ∧ x.Place ≤ 4096
  num : 0 ≤ x.Number ∧ x.Number ≤ 1000
  box : x.Box.length ≤ 1024
theorem itemOk {x : Item} (h : itemErr x = 0) : ItemOk x := by
  unfold itemErr at h
  split at h
  · cases h
  · split at h
    · cases h
    · split at h
      · cases h
      · split at h
        · cases h
        · next h1 h2 h3 h4 => exact ⟨by omega, by omega, by omega, by omega⟩
theorem itemBytes_len {x : Item} (h : ItemOk x) : (itemBytes x).length ≤ 1096 := by
  have h1 := numL_le7 (n := x.Place.toNat) (by have := h.place; omega)
  have h2 := numL_le7 (n := x.Kind.toNat) (by have := h.kind; omega)
  have h3 := numL_le7 (n := x.Number.toNat) (by have := h.num; omega)
  have h4 := numL_le7 (n := x.Box.length) (by have := h.box; omega)
  have := h.box
  simp [itemBytes, itemStr, Arr.len]; omega
theorem epochs_c (n : Int) : FunA gl Tryd.prog 100 [.v n] (fun r => r = .v (decide (1 ≤ n) && decide (n ≤ 1000))) := by
  refine FunA.intro Tryd.func100 rfl (by kernel_rfl) 9 rfl rfl _ rfl fun C hC hG => ?_
  refine .seq ?_
  refine .region rfl ?_
  refine .p (.assign .b ?_)
  refine .nil ?_
  refine .seq ?_
  refine .region rfl ?_
  refine .p (.move (.t rfl) (.p (.geq (.t rfl) (.i rfl) (.p (.move (.t rfl) ?_)))))
  refine .go 5 rfl (.t rfl) (fun hg6 => .move (.t rfl) rfl) ?_
  refine .go 5 rfl (.t rfl) (fun hg7 => .leq (.o rfl (beq_iff_eq.2 hg7)) (.i rfl) rfl) ?_
  refine .p (.pickAnd (.t rfl) (fun hp => (.o rfl (beq_iff_eq.2 hp))) (.p (.assign (.t rfl) ?_)))
  refine .nil ?_
  refine .ret ?_
  refine ⟨_, .r1 rfl (.tmp rfl), ?_⟩
  rfl
theorem places_c (n : Int) : FunA gl Tryd.prog 99 [.v n] (fun r => r = .v (decide (1 ≤ n) && decide (n ≤ 4096))) := by
  refine FunA.intro Tryd.func99 rfl (by kernel_rfl) 9 rfl rfl _ rfl fun C hC hG => ?_
  refine .seq ?_
  refine .region rfl ?_
  refine .p (.assign .b ?_)
  refine .nil ?_
  refine .seq ?_
  refine .region rfl ?_
  refine .p (.move (.t rfl) (.p (.geq (.t rfl) (.i rfl) (.p (.move (.t rfl) ?_)))))
  refine .go 5 rfl (.t rfl) (fun hg6 => .move (.t rfl) rfl) ?_
  refine .go 5 rfl (.t rfl) (fun hg7 => .leq (.o rfl (beq_iff_eq.2 hg7)) (.i rfl) rfl) ?_
  refine .p (.pickAnd (.t rfl) (fun hp => (.o rfl (beq_iff_eq.2 hp))) (.p (.assign (.t rfl) ?_)))
  refine .nil ?_
  refine .ret ?_
  refine ⟨_, .r1 rfl (.tmp rfl), ?_⟩
  rfl
theorem itemCheck_c (x : Item) : FunA gl Tryd.prog 74 [.v x] (fun r => r = .v (itemErr x)) := by
  refine FunA.intro Tryd.func74 rfl (by kernel_rfl) 79 rfl rfl _ rfl fun C hC hG => ?_
  refine .seq ?_
  refine .region rfl ?_
  refine .h (.box (.t rfl) fun b1 => .p (.assign (.i rfl) ?_))
  refine .nil ?_
  refine .seq ?_
  refine .draw (by kernel_rfl) 8 [[], [(6, 0)], [(7, 1)], [], [(9, 3)], [(10, 4)], [(8, 2)], [(11, 5)]] rfl (by kernel_rfl) rfl ?_
  refine ⟨_, OpP.fldW G_api_Item.l1 fd67_1 rfl (.t rfl) rfl, ?_⟩
  refine ⟨_, OpP.ldF (fun x => x.Kind) ty3 (.t rfl) .z (fun _ => rfl) rfl, ?_⟩
  refine ⟨_, OpP.eqlI (.t rfl) (.i rfl) rfl, ?_⟩
  refine ⟨_, OpP.fldW G_api_Item.l1 fd67_1 rfl (.t rfl) rfl, ?_⟩
  refine ⟨_, OpP.ldF (fun x => x.Kind) ty3 (.t rfl) .z (fun _ => rfl) rfl, ?_⟩
  refine ⟨_, OpP.eqlI (.t rfl) (.i rfl) rfl, ?_⟩
  refine ⟨_, OpP.assign (.t rfl) rfl, ?_⟩
  refine ⟨_, OpP.assign (.t rfl) rfl, ?_⟩
  show wpB _ _ _ _ _ _ ((4, _) :: (3, _) :: (11, _) :: (10, _) :: (9, _) :: (8, _) :: (7, _) :: (6, _) :: _) _
  refine .nil ?_
  refine .seq ?_
  refine .region rfl ?_
  refine .p (.move (.t rfl) (.p (.move (.t rfl) ?_)))
  refine .go 13 rfl (.t rfl) (fun hg14 => .move (.t rfl) rfl) ?_
  refine .p (.pickOr (.t rfl) (fun hp => (.o rfl (beq_iff_eq.2 hp))) (.p (.assign (.t rfl) ?_)))
  refine .nil ?_
  refine .seq ?_
  refine .block ?_
  refine .seq ?_
  refine .region rfl ?_
  refine .p (.move (.t rfl) (.p (.not (.t rfl) (.p (.move (.t rfl) ?_)))))
  refine .go 19 rfl (.t rfl) (fun hg20 => .fldW G_api_Item.l1 fd67_1 rfl (.t rfl) rfl) ?_
  refine .go 19 rfl (.t rfl) (fun hg21 => .ldF (fun x => x.Kind) ty3 (.o rfl (beq_iff_eq.2 hg21)) .z (fun _ => rfl) rfl) ?_
  refine .go 19 rfl (.t rfl) (fun hg22 => .neqI (.o rfl (beq_iff_eq.2 hg22)) (.i rfl) rfl) ?_
  refine .p (.pickAnd (.t rfl) (fun hp => (.o rfl (beq_iff_eq.2 hp))) (.p (.assign (.t rfl) ?_)))
  refine .nil ?_
  refine .cond (.t rfl) (fun hc16 => ?_) (fun hc16 => ?_)
  · refine .seq ?_
    refine .region rfl ?_
    refine .p (.assign (.i rfl) ?_)
    refine .nil ?_
    refine .ret ?_
    refine ⟨_, .r1 rfl (.tmp rfl), ?_⟩
    refine congrArg AV.v ?_
    simp only [Bool.and_eq_true, Bool.or_eq_true, Bool.not_eq_true', Bool.not_eq_false', Bool.and_eq_false_iff, Bool.or_eq_false_iff, decide_eq_true_eq, decide_eq_false_iff_not, ne_eq, Decidable.not_not] at *
    unfold itemErr
    by_cases hn : x.Node = default <;> simp only [hn, ne_eq, not_true, not_false_eq_true, and_true, and_false, or_false, false_or, true_and, or_true, true_or] at * <;> (repeat' split) <;> omega
  · refine .seq ?_
    refine .region rfl ?_
    refine .p (.move (.t rfl) (.p (.not (.t rfl) (.p (.move (.t rfl) ?_)))))
    refine .go 27 rfl (.t rfl) (fun hg28 => .fldW G_api_Item.l2 fd67_2 rfl (.t rfl) rfl) ?_
    refine .go 27 rfl (.t rfl) (fun hg29 => .ldF (fun x => x.Number) ty3 (.o rfl (beq_iff_eq.2 hg29)) .z (fun _ => rfl) rfl) ?_
    refine .go 27 rfl (.t rfl) (fun hg30 => .neqI (.o rfl (beq_iff_eq.2 hg30)) (.i rfl) rfl) ?_
    refine .p (.pickAnd (.t rfl) (fun hp => (.o rfl (beq_iff_eq.2 hp))) (.p (.move (.t rfl) ?_)))
    refine .go 32 rfl (.t rfl) (fun hg33 => .move (.t rfl) rfl) ?_
    refine .goU 32 rfl (.t rfl) (fun hg34 => .move (.o rfl (beq_iff_eq.2 hg34)) rfl) ?_
    refine .gn 34 rfl rfl (fun hc35 hg35 => .fldW G_api_Item.l3 fd67_3 rfl (.t rfl) rfl) ?_
    refine .gn 34 rfl rfl (fun hc36 hg36 => .ldF (fun x => x.Node) ty28 (.ou rfl (Bool.and_eq_true_iff.2 ⟨hc36, beq_iff_eq.2 hg36⟩)) .z (fun _ => rfl) rfl) ?_
    refine .gn 34 rfl rfl (fun hc37 hg37 => .buildA (default : (Arr 32 UInt8)) ty28 ar28 .nil rfl rfl) ?_
    refine .gn 34 rfl rfl (fun hc38 hg38 => .neqA8 Tryd.underlying28 sz5 Tryd.underlying5 gd28 (.ou rfl (Bool.and_eq_true_iff.2 ⟨hc38, beq_iff_eq.2 hg38⟩)) (.ou rfl (Bool.and_eq_true_iff.2 ⟨hc38, beq_iff_eq.2 hg38⟩)) rfl) ?_
    refine .go 32 rfl (.t rfl) (fun hg39 => .pickAnd (.ou rfl (beq_iff_eq.2 hg39)) (fun hp => (.ou rfl (Bool.and_eq_true_iff.2 ⟨(beq_iff_eq.2 hg39), beq_iff_eq.2 hp⟩))) rfl) ?_
    refine .p (.pickOr (.t rfl) (fun hp => (.o rfl (beq_iff_eq.2 hp))) (.p (.move (.t rfl) ?_)))
    refine .go 41 rfl (.t rfl) (fun hg42 => .move (.t rfl) rfl) ?_
    refine .go 41 rfl (.t rfl) (fun hg43 => .not (.o rfl (beq_iff_eq.2 hg43)) rfl) ?_
    refine .goU 41 rfl (.t rfl) (fun hg44 => .move (.o rfl (beq_iff_eq.2 hg44)) rfl) ?_
    refine .gn 44 rfl rfl (fun hc45 hg45 => .fldW G_api_Item.l4 fd67_4 rfl (.t rfl) rfl) ?_
    refine .gn 44 rfl rfl (fun hc46 hg46 => .ldF (fun x => x.Box) ty23 (.ou rfl (Bool.and_eq_true_iff.2 ⟨hc46, beq_iff_eq.2 hg46⟩)) .z (fun _ => rfl) rfl) ?_
    refine .gn 44 rfl rfl (fun hc47 hg47 => .len Tryd.underlying23 (.ou rfl (Bool.and_eq_true_iff.2 ⟨hc47, beq_iff_eq.2 hg47⟩)) rfl) ?_
    refine .gn 44 rfl rfl (fun hc48 hg48 => .gtr (.ou rfl (Bool.and_eq_true_iff.2 ⟨hc48, beq_iff_eq.2 hg48⟩)) (.i rfl) rfl) ?_
    refine .go 41 rfl (.t rfl) (fun hg49 => .pickAnd (.ou rfl (beq_iff_eq.2 hg49)) (fun hp => (.ou rfl (Bool.and_eq_true_iff.2 ⟨(beq_iff_eq.2 hg49), beq_iff_eq.2 hp⟩))) rfl) ?_
    refine .p (.pickOr (.t rfl) (fun hp => (.o rfl (beq_iff_eq.2 hp))) (.p (.assign (.t rfl) ?_)))
    refine .nil ?_
    refine .cond (.t rfl) (fun hc24 => ?_) (fun hc24 => ?_)
    · refine .seq ?_
      refine .region rfl ?_
      refine .p (.assign (.i rfl) ?_)
      refine .nil ?_
      refine .ret ?_
      refine ⟨_, .r1 rfl (.tmp rfl), ?_⟩
      refine congrArg AV.v ?_
      simp only [Bool.and_eq_true, Bool.or_eq_true, Bool.not_eq_true', Bool.not_eq_false', Bool.and_eq_false_iff, Bool.or_eq_false_iff, decide_eq_true_eq, decide_eq_false_iff_not, ne_eq, Decidable.not_not] at *
      unfold itemErr
      by_cases hn : x.Node = default <;> simp only [hn, ne_eq, not_true, not_false_eq_true, and_true, and_false, or_false, false_or, true_and, or_true, true_or] at * <;> (repeat' split) <;> omega
    · refine .seq ?_
      refine .region rfl ?_
      refine .p (.fldW G_api_Item.l0 fd67_0 rfl (.t rfl) (.p (.ldF (fun x => x.Place) ty3 (.t rfl) .z (fun _ => rfl) (.p (.call1 hG (places_c _) (.cons (.t rfl) .nil) (.p (.not (.t rfl) (.p (.move (.t rfl) ?_)))))))))
      refine .go 56 rfl (.t rfl) (fun hg57 => .move (.t rfl) rfl) ?_
      refine .goU 56 rfl (.t rfl) (fun hg58 => .move (.o rfl (beq_iff_eq.2 hg58)) rfl) ?_
      refine .gn 58 rfl rfl (fun hc59 hg59 => .fldW G_api_Item.l2 fd67_2 rfl (.t rfl) rfl) ?_
      refine .gn 58 rfl rfl (fun hc60 hg60 => .ldF (fun x => x.Number) ty3 (.ou rfl (Bool.and_eq_true_iff.2 ⟨hc60, beq_iff_eq.2 hg60⟩)) .z (fun _ => rfl) rfl) ?_
      refine .gn 58 rfl rfl (fun hc61 hg61 => .call1 hG (epochs_c _) (.cons (.ou rfl (Bool.and_eq_true_iff.2 ⟨hc61, beq_iff_eq.2 hg61⟩)) .nil) rfl) ?_
      refine .gn 58 rfl rfl (fun hc62 hg62 => .not (.ou rfl (Bool.and_eq_true_iff.2 ⟨hc62, beq_iff_eq.2 hg62⟩)) rfl) ?_
      refine .go 56 rfl (.t rfl) (fun hg63 => .pickAnd (.ou rfl (beq_iff_eq.2 hg63)) (fun hp => (.ou rfl (Bool.and_eq_true_iff.2 ⟨(beq_iff_eq.2 hg63), beq_iff_eq.2 hp⟩))) rfl) ?_
      refine .p (.pickOr (.t rfl) (fun hp => (.o rfl (beq_iff_eq.2 hp))) (.p (.assign (.t rfl) ?_)))
      refine .nil ?_
      refine .cond (.t rfl) (fun hc51 => ?_) (fun hc51 => ?_)
      · refine .seq ?_
        refine .region rfl ?_
        refine .p (.assign (.i rfl) ?_)
        refine .nil ?_
        refine .ret ?_
        refine ⟨_, .r1 rfl (.tmp rfl), ?_⟩
        refine congrArg AV.v ?_
        simp only [Bool.and_eq_true, Bool.or_eq_true, Bool.not_eq_true', Bool.not_eq_false', Bool.and_eq_false_iff, Bool.or_eq_false_iff, decide_eq_true_eq, decide_eq_false_iff_not, ne_eq, Decidable.not_not] at *
        unfold itemErr
        by_cases hn : x.Node = default <;> simp only [hn, ne_eq, not_true, not_false_eq_true, and_true, and_false, or_false, false_or, true_and, or_true, true_or] at * <;> (repeat' split) <;> omega
      · refine .seq ?_
        refine .region rfl ?_
        refine .p (.move (.t rfl) (.p (.move (.t rfl) ?_)))
        refine .go 67 rfl (.t rfl) (fun hg68 => .fldW G_api_Item.l4 fd67_4 rfl (.t rfl) rfl) ?_
        refine .go 67 rfl (.t rfl) (fun hg69 => .ldF (fun x => x.Box) ty23 (.o rfl (beq_iff_eq.2 hg69)) .z (fun _ => rfl) rfl) ?_
        refine .go 67 rfl (.t rfl) (fun hg70 => .len Tryd.underlying23 (.o rfl (beq_iff_eq.2 hg70)) rfl) ?_
        refine .go 67 rfl (.t rfl) (fun hg71 => .lss (.o rfl (beq_iff_eq.2 hg71)) (.i rfl) rfl) ?_
        refine .goU 67 rfl (.t rfl) (fun hg72 => .move (.o rfl (beq_iff_eq.2 hg72)) rfl) ?_
        refine .gn 72 rfl rfl (fun hc73 hg73 => .fldW G_api_Item.l4 fd67_4 rfl (.t rfl) rfl) ?_
        refine .gn 72 rfl rfl (fun hc74 hg74 => .ldF (fun x => x.Box) ty23 (.ou rfl (Bool.and_eq_true_iff.2 ⟨hc74, beq_iff_eq.2 hg74⟩)) .z (fun _ => rfl) rfl) ?_
        refine .gn 72 rfl rfl (fun hc75 hg75 => .len Tryd.underlying23 (.ou rfl (Bool.and_eq_true_iff.2 ⟨hc75, beq_iff_eq.2 hg75⟩)) rfl) ?_
        refine .gn 72 rfl rfl (fun hc76 hg76 => .gtr (.ou rfl (Bool.and_eq_true_iff.2 ⟨hc76, beq_iff_eq.2 hg76⟩)) (.i rfl) rfl) ?_
        refine .go 67 rfl (.t rfl) (fun hg77 => .pickOr (.ou rfl (beq_iff_eq.2 hg77)) (fun hp => (.ou rfl (Bool.and_eq_true_iff.2 ⟨(beq_iff_eq.2 hg77), beq_iff_eq.2 hp⟩))) rfl) ?_
        refine .p (.pickAnd (.t rfl) (fun hp => (.o rfl (beq_iff_eq.2 hp))) (.p (.assign (.t rfl) ?_)))
        refine .nil ?_
        refine .cond (.t rfl) (fun hc65 => ?_) (fun hc65 => ?_)
        · refine .seq ?_
          refine .region rfl ?_
          refine .p (.assign (.i rfl) ?_)
          refine .nil ?_
          refine .ret ?_
          refine ⟨_, .r1 rfl (.tmp rfl), ?_⟩
          refine congrArg AV.v ?_
          simp only [Bool.and_eq_true, Bool.or_eq_true, Bool.not_eq_true', Bool.not_eq_false', Bool.and_eq_false_iff, Bool.or_eq_false_iff, decide_eq_true_eq, decide_eq_false_iff_not, ne_eq, Decidable.not_not] at *
          unfold itemErr
          by_cases hn : x.Node = default <;> simp only [hn, ne_eq, not_true, not_false_eq_true, and_true, and_false, or_false, false_or, true_and, or_true, true_or] at * <;> (repeat' split) <;> omega
        · refine .skip ?_
          refine .seq ?_
          refine .region rfl ?_
          refine .p (.assign (.i rfl) ?_)
          refine .nil ?_
          refine .ret ?_
          refine ⟨_, .r1 rfl (.tmp rfl), ?_⟩
          refine congrArg AV.v ?_
          simp only [Bool.and_eq_true, Bool.or_eq_true, Bool.not_eq_true', Bool.not_eq_false', Bool.and_eq_false_iff, Bool.or_eq_false_iff, decide_eq_true_eq, decide_eq_false_iff_not, ne_eq, Decidable.not_not] at *
          unfold itemErr
          by_cases hn : x.Node = default <;> simp only [hn, ne_eq, not_true, not_false_eq_true, and_true, and_false, or_false, false_or, true_and, or_true, true_or] at * <;> (repeat' split) <;> omega
theorem itemMsg_of {x : Item} {e : Int} (h : itemErr x = e) (he : e ≠ 0) : itemMsg x = ([], e) := by unfold itemMsg; rw [h, if_pos he]
theorem itemMsg_ok {x : Item} (h : itemErr x = 0) : itemMsg x = (itemBytes x, 0) := by unfold itemMsg; rw [h, if_neg (by decide)]
theorem rItemMsg_c (x : Item) : FunA gl Tryd.prog 51 [.v x] (fun r => r = .t2 (.v (itemMsg x).1) (.v (itemMsg x).2)) := by
  refine FunA.intro Tryd.func51 rfl (by kernel_rfl) 101 rfl rfl _ rfl fun C hC hG => ?_
  refine .seq ?_
  refine .region rfl ?_
  refine .h (.box (.t rfl) fun b1 => .p (.assign (.nilS (α := UInt8)) (.p (.assign (.i rfl) ?_))))
  refine .nil ?_
  refine .seq ?_
  refine .seq ?_
  refine .frzOb hC .z ?_
  refine .asP 1 rfl .z ?_
  refine .region rfl ?_
  refine .p (.fldPF G_api_Item.l1 (fun x => x.Kind) fd67_1 rfl (fun _ => rfl) (.t rfl) (.p (.ldP ty3 (.t rfl) (.p (.lss (.t rfl) (.i rfl) (.p (.move (.t rfl) ?_)))))))
  refine .go 8 rfl (.t rfl) (fun hg9 => .fldPF G_api_Item.l1 (fun x => x.Kind) fd67_1 rfl (fun _ => rfl) (.t rfl) rfl) ?_
  refine .go 8 rfl (.t rfl) (fun hg10 => .ldP ty3 (.o rfl (beq_iff_eq.2 hg10)) rfl) ?_
  refine .go 8 rfl (.t rfl) (fun hg11 => .gtr (.o rfl (beq_iff_eq.2 hg11)) (.i rfl) rfl) ?_
  refine .p (.pickOr (.t rfl) (fun hp => (.o rfl (beq_iff_eq.2 hp))) ?_)
  refine .nil ?_
  refine .cond (.t rfl) (fun hc12 => ?_) (fun hc12 => ?_)
  · refine .seq ?_
    refine .region rfl ?_
    refine .p (.assign (.nilS (α := UInt8)) (.p (.assign (.i rfl) ?_)))
    refine .nil ?_
    refine .ret ?_
    refine ⟨_, .r2 rfl (.tmp rfl) (.tmp rfl), ?_⟩
    rw [itemMsg_of (x := x) (e := 6) (by simp only [Bool.and_eq_true, Bool.or_eq_true, Bool.not_eq_true', Bool.not_eq_false', Bool.and_eq_false_iff, Bool.or_eq_false_iff, decide_eq_true_eq, decide_eq_false_iff_not, ne_eq, Decidable.not_not] at *; unfold itemErr; by_cases hn : x.Node = default <;> simp only [hn, ne_eq, not_true, not_false_eq_true, and_true, and_false, or_false, false_or, true_and, or_true, true_or] at * <;> (repeat' split) <;> omega) (by decide)]
  · refine .skip ?_
    refine .seq ?_
    refine .seq ?_
    refine .region rfl ?_
    refine .p (.fldPF G_api_Item.l1 (fun x => x.Kind) fd67_1 rfl (fun _ => rfl) (.t rfl) (.p (.ldP ty3 (.t rfl) (.p (.neqI (.t rfl) (.i rfl) (.p (.move (.t rfl) ?_)))))))
    refine .go 16 rfl (.t rfl) (fun hg17 => .fldPF G_api_Item.l4 (fun x => x.Box) fd67_4 rfl (fun _ => rfl) (.t rfl) rfl) ?_
    refine .go 16 rfl (.t rfl) (fun hg18 => .ldP ty23 (.o rfl (beq_iff_eq.2 hg18)) rfl) ?_
    refine .go 16 rfl (.t rfl) (fun hg19 => .len Tryd.underlying23 (.o rfl (beq_iff_eq.2 hg19)) rfl) ?_
    refine .go 16 rfl (.t rfl) (fun hg20 => .gtr (.o rfl (beq_iff_eq.2 hg20)) (.i rfl) rfl) ?_
    refine .p (.pickAnd (.t rfl) (fun hp => (.o rfl (beq_iff_eq.2 hp))) (.p (.move (.t rfl) ?_)))
    refine .go 22 rfl (.t rfl) (fun hg23 => .fldPF G_api_Item.l1 (fun x => x.Kind) fd67_1 rfl (fun _ => rfl) (.t rfl) rfl) ?_
    refine .go 22 rfl (.t rfl) (fun hg24 => .ldP ty3 (.o rfl (beq_iff_eq.2 hg24)) rfl) ?_
    refine .go 22 rfl (.t rfl) (fun hg25 => .eqlI (.o rfl (beq_iff_eq.2 hg25)) (.i rfl) rfl) ?_
    refine .goU 22 rfl (.t rfl) (fun hg26 => .move (.o rfl (beq_iff_eq.2 hg26)) rfl) ?_
    refine .gn 26 rfl rfl (fun hc27 hg27 => .fldPF G_api_Item.l2 (fun x => x.Number) fd67_2 rfl (fun _ => rfl) (.t rfl) rfl) ?_
    refine .gn 26 rfl rfl (fun hc28 hg28 => .ldP ty3 (.ou rfl (Bool.and_eq_true_iff.2 ⟨hc28, beq_iff_eq.2 hg28⟩)) rfl) ?_
    refine .gn 26 rfl rfl (fun hc29 hg29 => .neqI (.ou rfl (Bool.and_eq_true_iff.2 ⟨hc29, beq_iff_eq.2 hg29⟩)) (.i rfl) rfl) ?_
    refine .go 22 rfl (.t rfl) (fun hg30 => .pickAnd (.ou rfl (beq_iff_eq.2 hg30)) (fun hp => (.ou rfl (Bool.and_eq_true_iff.2 ⟨(beq_iff_eq.2 hg30), beq_iff_eq.2 hp⟩))) rfl) ?_
    refine .p (.pickOr (.t rfl) (fun hp => (.o rfl (beq_iff_eq.2 hp))) (.p (.move (.t rfl) ?_)))
    refine .go 32 rfl (.t rfl) (fun hg33 => .fldPF G_api_Item.l1 (fun x => x.Kind) fd67_1 rfl (fun _ => rfl) (.t rfl) rfl) ?_
    refine .go 32 rfl (.t rfl) (fun hg34 => .ldP ty3 (.o rfl (beq_iff_eq.2 hg34)) rfl) ?_
    refine .go 32 rfl (.t rfl) (fun hg35 => .neqI (.o rfl (beq_iff_eq.2 hg35)) (.i rfl) rfl) ?_
    refine .goU 32 rfl (.t rfl) (fun hg36 => .move (.o rfl (beq_iff_eq.2 hg36)) rfl) ?_
    refine .gn 36 rfl rfl (fun hc37 hg37 => .fldPF G_api_Item.l3 (fun x => x.Node) fd67_3 rfl (fun _ => rfl) (.t rfl) rfl) ?_
    refine .gn 36 rfl rfl (fun hc38 hg38 => .ldP ty28 (.ou rfl (Bool.and_eq_true_iff.2 ⟨hc38, beq_iff_eq.2 hg38⟩)) rfl) ?_
    refine .gn 36 rfl rfl (fun hc39 hg39 => .buildA (default : (Arr 32 UInt8)) ty28 ar28 .nil rfl rfl) ?_
    refine .gn 36 rfl rfl (fun hc40 hg40 => .neqA8 Tryd.underlying28 sz5 Tryd.underlying5 gd28 (.ou rfl (Bool.and_eq_true_iff.2 ⟨hc40, beq_iff_eq.2 hg40⟩)) (.ou rfl (Bool.and_eq_true_iff.2 ⟨hc40, beq_iff_eq.2 hg40⟩)) rfl) ?_
    refine .go 32 rfl (.t rfl) (fun hg41 => .pickAnd (.ou rfl (beq_iff_eq.2 hg41)) (fun hp => (.ou rfl (Bool.and_eq_true_iff.2 ⟨(beq_iff_eq.2 hg41), beq_iff_eq.2 hp⟩))) rfl) ?_
    refine .p (.pickOr (.t rfl) (fun hp => (.o rfl (beq_iff_eq.2 hp))) ?_)
    refine .nil ?_
    refine .cond (.t rfl) (fun hc42 => ?_) (fun hc42 => ?_)
    · refine .seq ?_
      refine .region rfl ?_
      refine .p (.assign (.nilS (α := UInt8)) (.p (.assign (.i rfl) ?_)))
      refine .nil ?_
      refine .ret ?_
      refine ⟨_, .r2 rfl (.tmp rfl) (.tmp rfl), ?_⟩
      rw [itemMsg_of (x := x) (e := 9) (by simp only [Bool.and_eq_true, Bool.or_eq_true, Bool.not_eq_true', Bool.not_eq_false', Bool.and_eq_false_iff, Bool.or_eq_false_iff, decide_eq_true_eq, decide_eq_false_iff_not, ne_eq, Decidable.not_not] at *; unfold itemErr; by_cases hn : x.Node = default <;> simp only [hn, ne_eq, not_true, not_false_eq_true, and_true, and_false, or_false, false_or, true_and, or_true, true_or] at * <;> (repeat' split) <;> omega) (by decide)]
    · refine .skip ?_
      refine .seq ?_
      refine .seq ?_
      refine .region rfl ?_
      refine .p (.fldPF G_api_Item.l0 (fun x => x.Place) fd67_0 rfl (fun _ => rfl) (.t rfl) (.p (.ldP ty3 (.t rfl) (.p (.lss (.t rfl) (.i rfl) (.p (.move (.t rfl) ?_)))))))
      refine .go 46 rfl (.t rfl) (fun hg47 => .fldPF G_api_Item.l0 (fun x => x.Place) fd67_0 rfl (fun _ => rfl) (.t rfl) rfl) ?_
      refine .go 46 rfl (.t rfl) (fun hg48 => .ldP ty3 (.o rfl (beq_iff_eq.2 hg48)) rfl) ?_
      refine .go 46 rfl (.t rfl) (fun hg49 => .gtr (.o rfl (beq_iff_eq.2 hg49)) (.i rfl) rfl) ?_
      refine .p (.pickOr (.t rfl) (fun hp => (.o rfl (beq_iff_eq.2 hp))) (.p (.move (.t rfl) ?_)))
      refine .go 51 rfl (.t rfl) (fun hg52 => .fldPF G_api_Item.l1 (fun x => x.Kind) fd67_1 rfl (fun _ => rfl) (.t rfl) rfl) ?_
      refine .go 51 rfl (.t rfl) (fun hg53 => .ldP ty3 (.o rfl (beq_iff_eq.2 hg53)) rfl) ?_
      refine .go 51 rfl (.t rfl) (fun hg54 => .neqI (.o rfl (beq_iff_eq.2 hg54)) (.i rfl) rfl) ?_
      refine .goU 51 rfl (.t rfl) (fun hg55 => .move (.o rfl (beq_iff_eq.2 hg55)) rfl) ?_
      refine .gn 55 rfl rfl (fun hc56 hg56 => .fldPF G_api_Item.l2 (fun x => x.Number) fd67_2 rfl (fun _ => rfl) (.t rfl) rfl) ?_
      refine .gn 55 rfl rfl (fun hc57 hg57 => .ldP ty3 (.ou rfl (Bool.and_eq_true_iff.2 ⟨hc57, beq_iff_eq.2 hg57⟩)) rfl) ?_
      refine .gn 55 rfl rfl (fun hc58 hg58 => .lss (.ou rfl (Bool.and_eq_true_iff.2 ⟨hc58, beq_iff_eq.2 hg58⟩)) (.i rfl) rfl) ?_
      refine .gn 55 rfl rfl (fun hc59 hg59 => .move (.ou rfl (Bool.and_eq_true_iff.2 ⟨hc59, beq_iff_eq.2 hg59⟩)) rfl) ?_
      refine .gn 59 rfl rfl (fun hc60 hg60 => .fldPF G_api_Item.l2 (fun x => x.Number) fd67_2 rfl (fun _ => rfl) (.t rfl) rfl) ?_
      refine .gn 59 rfl rfl (fun hc61 hg61 => .ldP ty3 (.ou rfl (Bool.and_eq_true_iff.2 ⟨hc61, beq_iff_eq.2 hg61⟩)) rfl) ?_
      refine .gn 59 rfl rfl (fun hc62 hg62 => .gtr (.ou rfl (Bool.and_eq_true_iff.2 ⟨hc62, beq_iff_eq.2 hg62⟩)) (.i rfl) rfl) ?_
      refine .gn 55 rfl rfl (fun hc63 hg63 => .pickOr (.ou rfl (Bool.and_eq_true_iff.2 ⟨hc63, beq_iff_eq.2 hg63⟩)) (fun hp => (.ou rfl (Bool.and_eq_true_iff.2 ⟨(Bool.and_eq_true_iff.2 ⟨hc63, beq_iff_eq.2 hg63⟩), beq_iff_eq.2 hp⟩))) rfl) ?_
      refine .go 51 rfl (.t rfl) (fun hg64 => .pickAnd (.ou rfl (beq_iff_eq.2 hg64)) (fun hp => (.ou rfl (Bool.and_eq_true_iff.2 ⟨(beq_iff_eq.2 hg64), beq_iff_eq.2 hp⟩))) rfl) ?_
      refine .p (.pickOr (.t rfl) (fun hp => (.o rfl (beq_iff_eq.2 hp))) ?_)
      refine .nil ?_
      refine .cond (.t rfl) (fun hc65 => ?_) (fun hc65 => ?_)
      · refine .seq ?_
        refine .region rfl ?_
        refine .p (.assign (.nilS (α := UInt8)) (.p (.assign (.i rfl) ?_)))
        refine .nil ?_
        refine .ret ?_
        refine ⟨_, .r2 rfl (.tmp rfl) (.tmp rfl), ?_⟩
        rw [itemMsg_of (x := x) (e := 1) (by simp only [Bool.and_eq_true, Bool.or_eq_true, Bool.not_eq_true', Bool.not_eq_false', Bool.and_eq_false_iff, Bool.or_eq_false_iff, decide_eq_true_eq, decide_eq_false_iff_not, ne_eq, Decidable.not_not] at *; unfold itemErr; by_cases hn : x.Node = default <;> simp only [hn, ne_eq, not_true, not_false_eq_true, and_true, and_false, or_false, false_or, true_and, or_true, true_or] at * <;> (repeat' split) <;> omega) (by decide)]
      · refine .skip ?_
        refine .seq ?_
        refine .seq ?_
        refine .region rfl ?_
        refine .p (.fldPF G_api_Item.l1 (fun x => x.Kind) fd67_1 rfl (fun _ => rfl) (.t rfl) (.p (.ldP ty3 (.t rfl) (.p (.eqlI (.t rfl) (.i rfl) (.p (.move (.t rfl) ?_)))))))
        refine .go 69 rfl (.t rfl) (fun hg70 => .fldPF G_api_Item.l4 (fun x => x.Box) fd67_4 rfl (fun _ => rfl) (.t rfl) rfl) ?_
        refine .go 69 rfl (.t rfl) (fun hg71 => .ldP ty23 (.o rfl (beq_iff_eq.2 hg71)) rfl) ?_
        refine .go 69 rfl (.t rfl) (fun hg72 => .len Tryd.underlying23 (.o rfl (beq_iff_eq.2 hg72)) rfl) ?_
        refine .go 69 rfl (.t rfl) (fun hg73 => .lss (.o rfl (beq_iff_eq.2 hg73)) (.i rfl) rfl) ?_
        refine .goU 69 rfl (.t rfl) (fun hg74 => .move (.o rfl (beq_iff_eq.2 hg74)) rfl) ?_
        refine .gn 74 rfl rfl (fun hc75 hg75 => .fldPF G_api_Item.l4 (fun x => x.Box) fd67_4 rfl (fun _ => rfl) (.t rfl) rfl) ?_
        refine .gn 74 rfl rfl (fun hc76 hg76 => .ldP ty23 (.ou rfl (Bool.and_eq_true_iff.2 ⟨hc76, beq_iff_eq.2 hg76⟩)) rfl) ?_
        refine .gn 74 rfl rfl (fun hc77 hg77 => .len Tryd.underlying23 (.ou rfl (Bool.and_eq_true_iff.2 ⟨hc77, beq_iff_eq.2 hg77⟩)) rfl) ?_
        refine .gn 74 rfl rfl (fun hc78 hg78 => .gtr (.ou rfl (Bool.and_eq_true_iff.2 ⟨hc78, beq_iff_eq.2 hg78⟩)) (.i rfl) rfl) ?_
        refine .go 69 rfl (.t rfl) (fun hg79 => .pickOr (.ou rfl (beq_iff_eq.2 hg79)) (fun hp => (.ou rfl (Bool.and_eq_true_iff.2 ⟨(beq_iff_eq.2 hg79), beq_iff_eq.2 hp⟩))) rfl) ?_
        refine .p (.pickAnd (.t rfl) (fun hp => (.o rfl (beq_iff_eq.2 hp))) ?_)
        refine .nil ?_
        refine .cond (.t rfl) (fun hc80 => ?_) (fun hc80 => ?_)
        · refine .seq ?_
          refine .region rfl ?_
          refine .p (.assign (.nilS (α := UInt8)) (.p (.assign (.i rfl) ?_)))
          refine .nil ?_
          refine .ret ?_
          refine ⟨_, .r2 rfl (.tmp rfl) (.tmp rfl), ?_⟩
          rw [itemMsg_of (x := x) (e := 2) (by simp only [Bool.and_eq_true, Bool.or_eq_true, Bool.not_eq_true', Bool.not_eq_false', Bool.and_eq_false_iff, Bool.or_eq_false_iff, decide_eq_true_eq, decide_eq_false_iff_not, ne_eq, Decidable.not_not] at *; unfold itemErr; by_cases hn : x.Node = default <;> simp only [hn, ne_eq, not_true, not_false_eq_true, and_true, and_false, or_false, false_or, true_and, or_true, true_or] at * <;> (repeat' split) <;> omega) (by decide)]
        · refine .skip ?_
          refine .seq ?_
          have h0 : itemErr x = 0 := (by simp only [Bool.and_eq_true, Bool.or_eq_true, Bool.not_eq_true', Bool.not_eq_false', Bool.and_eq_false_iff, Bool.or_eq_false_iff, decide_eq_true_eq, decide_eq_false_iff_not, ne_eq, Decidable.not_not] at *; unfold itemErr; by_cases hn : x.Node = default <;> simp only [hn, ne_eq, not_true, not_false_eq_true, and_true, and_false, or_false, false_or, true_and, or_true, true_or] at * <;> (repeat' split) <;> omega)
          obtain ⟨⟨k1, k2⟩, ⟨p1, p2⟩, ⟨n1, n2⟩, bx⟩ := itemOk h0
          have l1 := numL_le7 (n := x.Place.toNat) (by omega)
          have l2 := numL_le7 (n := x.Kind.toNat) (by omega)
          have l3 := numL_le7 (n := x.Number.toNat) (by omega)
          have l4 := numL_le7 (n := x.Box.length) (by omega)
          refine .drawC (by kernel_rfl) 12 [[], [(81, 0)], [(82, 1)], [], [(84, 3)], [(85, 4)], [(83, 2), (86, 5)], [], [(88, 7)], [(89, 8)], [(87, 6), (90, 9)], [(91, 10)]] [2, 6, 10, 11] rfl (by kernel_rfl) rfl (by kernel_rfl) (by decide) ?_
          refine ⟨_, fun H => OpP.fldPF G_api_Item.l0 (fun x => x.Place) fd67_0 rfl (fun _ => rfl) (.t rfl) rfl, ?_⟩
          refine ⟨_, fun H => OpP.ldP ty3 (.t rfl) rfl, ?_⟩
          refine .inl ?_
          refine ⟨_, fun H => OpP.fldPF G_api_Item.l1 (fun x => x.Kind) fd67_1 rfl (fun _ => rfl) (.t rfl) rfl, ?_⟩
          refine ⟨_, fun H => OpP.ldP ty3 (.t rfl) rfl, ?_⟩
          refine ⟨_, fun H => OpP.call1 hG (rNumber_c _ (by omega) (by omega)) (.cons (.t rfl) .nil) rfl, ?_⟩
          refine .inl ?_
          refine ⟨_, fun H => OpP.fldPF G_api_Item.l2 (fun x => x.Number) fd67_2 rfl (fun _ => rfl) (.t rfl) rfl, ?_⟩
          refine ⟨_, fun H => OpP.ldP ty3 (.t rfl) rfl, ?_⟩
          refine ⟨_, fun H => OpP.call1 hG (rNumber_c _ (by omega) (by omega)) (.cons (.t rfl) .nil) rfl, ?_⟩
          refine .inl ?_
          refine .inl ?_
          refine OpH.call0 hG (rNumber_own _ (by omega) (by omega)) (.cons (.t rfl) .nil) fun r83 Hs83 hr83 => ?_
          obtain ⟨u83, rfl, rfl⟩ := hr83
          refine OpH.append st23 (.inl ⟨_, Tryd.underlying23⟩) rfl .z (.v (.t rfl)) (by first | omega | (simp; done) | (simp; omega) | (simp at *; omega)) (by first | omega | (simp; done) | (simp; omega) | (simp at *; omega)) (fun w87 => ?_) rfl
          refine OpH.append st23 (.inl ⟨_, Tryd.underlying23⟩) rfl .z (.v (.t rfl)) (by first | omega | (simp; done) | (simp; omega) | (simp at *; omega)) (by first | omega | (simp; done) | (simp; omega) | (simp at *; omega)) (fun w91 => ?_) rfl
          refine OpH.ofP (OpP.assign (.t rfl) ?_)
          show wpB _ _ _ _ _ _ ((4, _) :: (91, _) :: (90, _) :: (89, _) :: (88, _) :: (87, _) :: (86, _) :: (85, _) :: (84, _) :: (83, _) :: (82, _) :: (81, _) :: _) _
          refine .nil ?_
          refine .seq ?_
          refine .drawCF [true, false] (by kernel_rfl) 11 [[], [], [(93, 1)], [(92, 0), (94, 2)], [], [(96, 4)], [(97, 5)], [(95, 3), (98, 6)], [(99, 7)], [(100, 8)], []] [0, 3, 7, 8, 9] rfl (by kernel_rfl) rfl (by kernel_rfl) (by decide) ?_
          refine .inl ?_
          refine ⟨_, fun H => OpP.fldPF G_api_Item.l3 (fun x => x.Node) fd67_3 rfl (fun _ => rfl) (.t rfl) rfl, ?_⟩
          refine ⟨_, fun H => OpP.slArrP (by decide) ar28 (.t rfl) rfl, ?_⟩
          refine .inl ?_
          refine ⟨_, fun H => OpP.fldPF G_api_Item.l4 (fun x => x.Box) fd67_4 rfl (fun _ => rfl) (.t rfl) rfl, ?_⟩
          refine ⟨_, fun H => OpP.ldP ty23 (.t rfl) rfl, ?_⟩
          refine ⟨_, fun H => OpP.call1 hG (rField_c _ (by omega)) (.cons (.t rfl) .nil) rfl, ?_⟩
          refine .inl ?_
          refine .inl ?_
          refine .inl ?_
          refine ⟨_, fun H => OpP.assign (.i rfl) rfl, ?_⟩
          refine ⟨⟨([], fun k => List.getD [_, (true, .none_)] k (true, .none_)), rfl⟩, ?_⟩
          refine OpH.ofP (OpP.move (.t rfl) ?_)
          refine ⟨⟨([], fun k => List.getD [_, (true, .none_)] k (true, .none_)), rfl⟩, ?_⟩
          refine OpH.append st23 (.inl ⟨_, Tryd.underlying23⟩) rfl .z (.v (.t rfl)) (by first | omega | (simp; done) | (simp; omega) | (simp at *; omega)) (by first | omega | (simp; done) | (simp; omega) | (simp at *; omega)) (fun w95 => ?_) rfl
          refine ⟨⟨([], fun k => List.getD [_, (true, .none_)] k (true, .none_)), rfl⟩, ?_⟩
          refine OpH.append st23 (.inl ⟨_, Tryd.underlying23⟩) rfl .z (.v (.t rfl)) (by first | omega | (simp; done) | (simp; omega) | (simp at *; omega)) (by first | omega | (simp; done) | (simp; omega) | (simp at *; omega)) (fun w99 => ?_) rfl
          refine ⟨⟨([], fun k => List.getD [_, (true, .none_)] k (true, .none_)), rfl⟩, ?_⟩
          refine OpH.lend0 hG (wordOwn_c _ _ (by decide) (by simp [Arr.len]; omega)) (.cons (.e (.s [105, 116, 101, 109] (by decide) (by decide))) (.cons (.own rfl .z) .nil)) (by rintro _ _ ⟨u, rfl, rfl⟩; exact .own) fun r100 Hs100 hr100 => ?_
          obtain ⟨u100, rfl, rfl⟩ := hr100
          refine ⟨⟨([_], fun k => List.getD [_, (true, .none_)] k (true, .none_)), rfl⟩, ?_⟩
          refine OpH.ofP (OpP.assign (.t rfl) ?_)
          refine ⟨⟨([_], fun k => List.getD [_, (true, .none_)] k (true, .none_)), rfl⟩, ?_⟩
          show wpB _ _ _ _ _ _ ((3, _) :: (2, _) :: (100, _) :: (99, _) :: (98, _) :: (97, _) :: (96, _) :: (95, _) :: (94, _) :: (93, _) :: (92, _) :: _) _
          refine .frzOwn hC .z ?_
          refine .as 2 rfl .z ?_
          refine .nil ?_
          refine .ret ?_
          refine ⟨_, .r2 rfl (.tmp rfl) (.tmp rfl), ?_⟩
          rw [itemMsg_ok h0]; rfl
theorem itemMsgP_c (x : Item) (hx : x.Box.length ≤ 1000000) : FunA gl Tryd.prog 50 [.v x] (fun r => r = .t2 (.v (itemMsg x).1) (.v (itemMsg x).2)) := by
  refine FunA.intro Tryd.func50 rfl (by kernel_rfl) 53 rfl rfl _ rfl fun C hC hG => ?_
  refine .seq ?_
  refine .region rfl ?_
  refine .h (.box (.t rfl) fun b1 => .p (.assign (.nilS (α := UInt8)) (.p (.assign (.i rfl) ?_))))
  refine .nil ?_
  refine .seq ?_
  refine .seq ?_
  refine .frzOb hC .z ?_
  refine .asP 1 rfl .z ?_
  refine .region rfl ?_
  refine .p (.ldP ty67 (.t rfl) (.p (.call1 hG (itemCheck_c _) (.cons (.t rfl) .nil) (.p (.assign (.t rfl) ?_)))))
  refine .nil ?_
  refine .seq ?_
  refine .region rfl ?_
  refine .p (.move (.t rfl) (.p (.neqI (.t rfl) (.i rfl) ?_)))
  refine .nil ?_
  refine .condP (.t rfl) (fun hc17 => ?_) (fun hc17 => ?_)
  · refine .seq ?_
    refine .region rfl ?_
    refine .p (.move (.t rfl) (.p (.assign (.nilS (α := UInt8)) (.p (.assign (.t rfl) ?_)))))
    refine .nil ?_
    refine .ret ?_
    refine ⟨_, .r2 rfl (.tmp rfl) (.tmp rfl), ?_⟩
    rw [itemMsg_of rfl hc17]
  · refine .skip ?_
    refine .seq ?_
    have h0 : itemErr x = 0 := by omega
    obtain ⟨⟨k1, k2⟩, ⟨p1, p2⟩, ⟨n1, n2⟩, bx⟩ := itemOk h0
    have l1 := numL_le7 (n := x.Place.toNat) (by omega)
    have l2 := numL_le7 (n := x.Kind.toNat) (by omega)
    have l3 := numL_le7 (n := x.Number.toNat) (by omega)
    have l4 := numL_le7 (n := x.Box.length) (by omega)
    refine .region rfl ?_
    refine .p (.fldPF G_api_Item.l0 (fun x => x.Place) fd67_0 rfl (fun _ => rfl) (.t rfl) (.p (.ldP ty3 (.t rfl) (.p (.call1 hG ((vrApp_own _ _ (by decide) (by omega) (by omega)).frzT) (.cons .nilS (.cons (.t rfl) .nil)) (.p (.move (.t rfl) (.p (.ext2_0 (.t rfl) (.p (.ext2_1 (.t rfl) ?_)))))))))))
    refine .p (.assign (.t rfl) (.p (.assign (.t rfl) ?_)))
    refine .nil ?_
    refine .seq ?_
    refine .region rfl ?_
    refine .p (.fldPF G_api_Item.l1 (fun x => x.Kind) fd67_1 rfl (fun _ => rfl) (.t rfl) (.p (.ldP ty3 (.t rfl) (.p (.call1 hG ((vrApp_own _ _ (by decide) (by omega) (by omega)).frzT) (.cons .nilS (.cons (.t rfl) .nil)) (.p (.move (.t rfl) (.p (.ext2_0 (.t rfl) (.p (.ext2_1 (.t rfl) ?_)))))))))))
    refine .p (.assign (.t rfl) (.p (.assign (.t rfl) ?_)))
    refine .nil ?_
    refine .seq ?_
    refine .region rfl ?_
    refine .p (.fldPF G_api_Item.l2 (fun x => x.Number) fd67_2 rfl (fun _ => rfl) (.t rfl) (.p (.ldP ty3 (.t rfl) (.p (.call1 hG ((vrApp_own _ _ (by decide) (by omega) (by omega)).frzT) (.cons .nilS (.cons (.t rfl) .nil)) (.p (.move (.t rfl) (.p (.ext2_0 (.t rfl) (.p (.ext2_1 (.t rfl) ?_)))))))))))
    refine .p (.assign (.t rfl) (.p (.assign (.t rfl) ?_)))
    refine .nil ?_
    refine .seq ?_
    refine .region rfl ?_
    refine .p (.fldPF G_api_Item.l4 (fun x => x.Box) fd67_4 rfl (fun _ => rfl) (.t rfl) (.p (.ldP ty23 (.t rfl) (.p (.call1 hG (field_c _ _ (by decide) (by omega)) (.cons .nilS (.cons (.t rfl) .nil)) (.p (.move (.t rfl) (.p (.ext2_0 (.t rfl) (.p (.ext2_1 (.t rfl) ?_)))))))))))
    refine .p (.assign (.t rfl) (.p (.assign (.t rfl) ?_)))
    refine .nil ?_
    refine .seq ?_
    refine .region rfl ?_
    refine .p (.move (.t rfl) (.p (.move (.t rfl) (.p (.move (.t rfl) (.p (.fldPF G_api_Item.l3 (fun x => x.Node) fd67_3 rfl (fun _ => rfl) (.t rfl) (.p (.slArrP (by decide) ar28 (.t rfl) (.p (.move (.t rfl) ?_)))))))))))
    refine .p (.buildA (⟨[_, _, _, _, _], rfl⟩ : (Arr 5 (List UInt8))) ty100 ar100 (.cons (Lens.idx 0 (by decide)) _ rfl (.t rfl) (.cons (Lens.idx 1 (by decide)) _ rfl (.t rfl) (.cons (Lens.idx 2 (by decide)) _ rfl (.t rfl) (.cons (Lens.idx 3 (by decide)) _ rfl (.t rfl) (.cons (Lens.idx 4 (by decide)) _ rfl (.t rfl) .nil))))) rfl (.h (.alloc ty100 fun b13 => .n (.stW ty100 (.t rfl) (.t rfl) .z ?_))))
    refine .nil ?_
    refine .seq ?_
    refine .frzOb hC .z ?_
    refine .asP 13 rfl .z ?_
    refine .region rfl ?_
    refine .p (.slArrP (by decide) ar100 (.t rfl) (.p (.call1 hG (Join_c _ (by simp) (by simp) (by simp [Lib.lens, Arr.len]; omega)) (.cons (.t rfl) (.cons .nilS .nil)) (.p (.call1 hG (chainMsg_c _ _ (by decide) (by simp [Arr.len]; omega)) (.cons (.s [105, 116, 101, 109] (by decide) (by decide)) (.cons (.t rfl) .nil)) (.p (.assign (.t rfl) (.p (.assign (.i rfl) ?_)))))))))
    refine .nil ?_
    refine .ret ?_
    refine ⟨_, .r2 rfl (.tmp rfl) (.tmp rfl), ?_⟩
    rw [itemMsg_ok h0]; simp [itemBytes, itemStr]
def algSign (a : Alg) (k : Tag) (x : Item) : Alg × Item × Int :=
  if itemErr x ≠ 0 then (default, default, itemErr x) else
  if (algMac a k (itemBytes x)).2.2 ≠ 0 then (default, default, (algMac a k (itemBytes x)).2.2) else ((algMac a k (itemBytes x)).1, { x with Tag := (algMac a k (itemBytes x)).2.1 }, 0)
def itemCheck (a : Alg) (k : Tag) (x : Item) : Int :=
  if itemErr x ≠ 0 then itemErr x else if (algLook a k (itemBytes x)).2 = false ∨ (algLook a k (itemBytes x)).1 ≠ x.Tag then 19 else 0
theorem itemErr_msg {x : Item} : (itemMsg x).2 = itemErr x := by unfold itemMsg; split <;> first | rfl | omega
theorem itemMsg_1 {x : Item} (h : (itemMsg x).2 = 0) : (itemMsg x).1 = itemBytes x := by rw [itemErr_msg] at h; rw [itemMsg_ok h]
theorem rSign_c (a : Alg) (k : Tag) (x : Item) : FunA gl Tryd.prog 42 [.v a, .v k, .v x] (fun r => r = .t3 (.v (algSign a k x).1) (.v (algSign a k x).2.1) (.v (algSign a k x).2.2)) := by
  refine FunA.intro Tryd.func42 rfl (by kernel_rfl) 39 rfl rfl _ rfl fun C hC hG => ?_
  refine .seq ?_
  refine .region rfl ?_
  refine .h (.box (.t rfl) fun b3 => .h (.box (.t rfl) fun b4 => .h (.box (.t rfl) fun b5 => .h (.alloc ty32 fun b6 => .h (.alloc ty67 fun b7 => .p (.assign (.i rfl) ?_))))))
  refine .nil ?_
  refine .seq ?_
  refine .region rfl ?_
  refine .p (.ldW ty67 (.t rfl) (.s (.s .z)) (.p (.call1 hG (rItemMsg_c _) (.cons (.t rfl) .nil) (.p (.move (.t rfl) (.p (.ext2_0 (.t rfl) (.p (.ext2_1 (.t rfl) (.p (.assign (.t rfl) ?_)))))))))))
  refine .p (.assign (.t rfl) ?_)
  refine .nil ?_
  refine .seq ?_
  refine .seq ?_
  refine .region rfl ?_
  refine .p (.move (.t rfl) (.p (.neqI (.t rfl) (.i rfl) ?_)))
  refine .nil ?_
  refine .condP (.t rfl) (fun hc18 => ?_) (fun hc18 => ?_)
  · refine .seq ?_
    refine .region rfl ?_
    refine .p (.bS0 (α := G_api_Algebra) rfl ty32 fo32 (.p (.bS0 (α := G_api_Item) rfl ty67 fo67 (.p (.move (.t rfl) (.n (.stW ty32 (.t rfl) (.t rfl) (.s .z) (.n (.stW ty67 (.t rfl) (.t rfl) .z (.p (.assign (.t rfl) ?_)))))))))))
    refine .nil ?_
    refine .ret ?_
    refine ⟨_, .r3 rfl (.cell ty32 rfl (.s .z)) (.cell ty67 rfl .z) (.tmp rfl), ?_⟩
    have h : itemErr x ≠ 0 := itemErr_msg ▸ hc18
    unfold algSign; rw [if_pos h, itemErr_msg]
  · refine .skip ?_
    refine .seq ?_
    refine .region rfl ?_
    refine .p (.ldW ty32 (.t rfl) (.s (.s (.s (.s .z)))) (.p (.ldW ty28 (.t rfl) (.s (.s (.s .z))) (.p (.move (.t rfl) (.p (.call1 hG (rMac_c _ _ _) (.cons (.t rfl) (.cons (.t rfl) (.cons (.t rfl) .nil))) (.p (.move (.t rfl) (.p (.ext3_0 (.t rfl) ?_)))))))))))
    refine .p (.ext3_1 (.t rfl) (.p (.ext3_2 (.t rfl) (.h (.alloc ty28 fun b11 => .n (.stW ty32 (.t rfl) (.t rfl) (.s (.s (.s (.s (.s .z))))) (.n (.stW ty28 (.t rfl) (.t rfl) .z (.p (.assign (.t rfl) ?_))))))))))
    refine .nil ?_
    refine .seq ?_
    refine .seq ?_
    refine .region rfl ?_
    refine .p (.move (.t rfl) (.p (.neqI (.t rfl) (.i rfl) ?_)))
    refine .nil ?_
    refine .condP (.t rfl) (fun hc31 => ?_) (fun hc31 => ?_)
    · refine .seq ?_
      refine .region rfl ?_
      refine .p (.bS0 (α := G_api_Algebra) rfl ty32 fo32 (.p (.bS0 (α := G_api_Item) rfl ty67 fo67 (.p (.move (.t rfl) (.n (.stW ty32 (.t rfl) (.t rfl) (.s (.s .z)) (.n (.stW ty67 (.t rfl) (.t rfl) (.s .z) (.p (.assign (.t rfl) ?_)))))))))))
      refine .nil ?_
      refine .ret ?_
      refine ⟨_, .r3 rfl (.cell ty32 rfl (.s (.s .z))) (.cell ty67 rfl (.s .z)) (.tmp rfl), ?_⟩
      have h0 : (itemMsg x).2 = 0 := by omega
      rw [itemMsg_1 h0] at hc31 ⊢
      unfold algSign; rw [if_neg (itemErr_msg ▸ hc18), if_pos hc31]
    · refine .skip ?_
      refine .seq ?_
      refine .region rfl ?_
      refine .p (.ldW ty28 (.t rfl) .z (.p (.fldW G_api_Item.l5 fd67_5 rfl (.t rfl) (.n (.stF (fun y x => { x with Tag := y }) ty28 (.t rfl) (.t rfl) (.s (.s (.s .z))) (fun _ _ => rfl) ?_)))))
      refine .nil ?_
      refine .seq ?_
      refine .drawCF [false, true, true, false, false, false] (by kernel_rfl) 5 [[], [], [(37, 0)], [(38, 1)], []] [2, 3] rfl (by kernel_rfl) rfl (by kernel_rfl) (by decide) ?_
      refine ⟨_, fun H => OpP.ldW ty32 (.t rfl) (Hole.app (.s (.s (.s (.s (.s .z)))))) rfl, ?_⟩
      refine ⟨_, fun H => OpP.ldW ty67 (.t rfl) (Hole.app (.s (.s (.s .z)))) rfl, ?_⟩
      refine .inl ?_
      refine .inl ?_
      refine ⟨_, fun H => OpP.assign (.i rfl) rfl, ?_⟩
      refine ⟨⟨([], fun k => List.getD [(true, .none_), _, _, (true, .none_), (true, .none_), (true, .none_)] k (true, .none_)), rfl⟩, ?_⟩
      refine OpH.stW ty32 (.t rfl) (.t rfl) (.s (.s .z)) ?_
      refine ⟨⟨([], fun k => List.getD [(true, .none_), _, _, (true, .none_), (true, .none_), (true, .none_)] k (true, .none_)), rfl⟩, ?_⟩
      refine OpH.stW ty67 (.t rfl) (.t rfl) (.s .z) ?_
      refine ⟨⟨([], fun k => List.getD [(true, .none_), _, _, (true, .none_), (true, .none_), (true, .none_)] k (true, .none_)), rfl⟩, ?_⟩
      show wpB _ _ _ _ _ _ ((8, _) :: (38, _) :: (37, _) :: _) _
      refine .nil ?_
      refine .ret ?_
      refine ⟨_, .r3 rfl (.cell ty32 rfl (.s (.s .z))) (.cell ty67 rfl (.s .z)) (.tmp rfl), ?_⟩
      have h0 : (itemMsg x).2 = 0 := by omega
      rw [itemMsg_1 h0] at hc31 ⊢
      unfold algSign; rw [if_neg (itemErr_msg ▸ hc18), if_neg hc31]
theorem rCheckItem_c (a : Alg) (k : Tag) (x : Item) : FunA gl Tryd.prog 46 [.v a, .v k, .v x] (fun r => r = .v (itemCheck a k x)) := by
  refine FunA.intro Tryd.func46 rfl (by kernel_rfl) 34 rfl rfl _ rfl fun C hC hG => ?_
  refine .seq ?_
  refine .region rfl ?_
  refine .h (.box (.t rfl) fun b3 => .h (.box (.t rfl) fun b4 => .h (.box (.t rfl) fun b5 => .p (.assign (.i rfl) ?_))))
  refine .nil ?_
  refine .seq ?_
  refine .region rfl ?_
  refine .p (.ldW ty67 (.t rfl) .z (.p (.call1 hG (rItemMsg_c _) (.cons (.t rfl) .nil) (.p (.move (.t rfl) (.p (.ext2_0 (.t rfl) (.p (.ext2_1 (.t rfl) (.p (.assign (.t rfl) ?_)))))))))))
  refine .p (.assign (.t rfl) ?_)
  refine .nil ?_
  refine .seq ?_
  refine .seq ?_
  refine .region rfl ?_
  refine .p (.move (.t rfl) (.p (.neqI (.t rfl) (.i rfl) ?_)))
  refine .nil ?_
  refine .condP (.t rfl) (fun hc17 => ?_) (fun hc17 => ?_)
  · refine .seq ?_
    refine .region rfl ?_
    refine .p (.move (.t rfl) (.p (.assign (.t rfl) ?_)))
    refine .nil ?_
    refine .ret ?_
    refine ⟨_, .r1 rfl (.tmp rfl), ?_⟩
    unfold itemCheck; rw [if_pos (itemErr_msg ▸ hc17), itemErr_msg]
  · refine .skip ?_
    refine .seq ?_
    refine .seq ?_
    refine .region rfl ?_
    refine .p (.ldW ty32 (.t rfl) (.s (.s .z)) (.p (.ldW ty28 (.t rfl) (.s .z) (.p (.move (.t rfl) (.p (.call1 hG (rLook_c _ _ _) (.cons (.t rfl) (.cons (.t rfl) (.cons (.t rfl) .nil))) (.p (.move (.t rfl) (.p (.ext2_0 (.t rfl) ?_)))))))))))
    refine .p (.ext2_1 (.t rfl) (.h (.alloc ty28 fun b9 => .n (.stW ty28 (.t rfl) (.t rfl) .z (.p (.assign (.t rfl) ?_))))))
    refine .nil ?_
    refine .seq ?_
    refine .region rfl ?_
    refine .p (.move (.t rfl) (.p (.not (.t rfl) (.p (.move (.t rfl) ?_)))))
    refine .go 28 rfl (.t rfl) (fun hg29 => .ldW ty28 (.t rfl) .z rfl) ?_
    refine .go 28 rfl (.t rfl) (fun hg30 => .fldW G_api_Item.l5 fd67_5 rfl (.t rfl) rfl) ?_
    refine .go 28 rfl (.t rfl) (fun hg31 => .ldF (fun x => x.Tag) ty28 (.o rfl (beq_iff_eq.2 hg31)) (.s .z) (fun _ => rfl) rfl) ?_
    refine .go 28 rfl (.t rfl) (fun hg32 => .neqA8 Tryd.underlying28 sz5 Tryd.underlying5 gd28 (.o rfl (beq_iff_eq.2 hg32)) (.o rfl (beq_iff_eq.2 hg32)) rfl) ?_
    refine .p (.pickOr (.t rfl) (fun hp => (.o rfl (beq_iff_eq.2 hp))) ?_)
    refine .nil ?_
    refine .cond (.t rfl) (fun hc33 => ?_) (fun hc33 => ?_)
    · refine .seq ?_
      refine .region rfl ?_
      refine .p (.assign (.i rfl) ?_)
      refine .nil ?_
      refine .ret ?_
      refine ⟨_, .r1 rfl (.tmp rfl), ?_⟩
      rw [itemMsg_1 (by omega)] at hc33; unfold itemCheck; rw [if_neg (itemErr_msg ▸ hc17), if_pos (by simp only [Bool.and_eq_true, Bool.or_eq_true, Bool.not_eq_true', Bool.not_eq_false', Bool.and_eq_false_iff, Bool.or_eq_false_iff, decide_eq_true_eq, decide_eq_false_iff_not, ne_eq, Decidable.not_not] at *; exact hc33)]
    · refine .skip ?_
      refine .seq ?_
      refine .region rfl ?_
      refine .p (.assign (.i rfl) ?_)
      refine .nil ?_
      refine .ret ?_
      refine ⟨_, .r1 rfl (.tmp rfl), ?_⟩
      rw [itemMsg_1 (by omega)] at hc33; unfold itemCheck; rw [if_neg (itemErr_msg ▸ hc17), if_neg (by simp only [Bool.and_eq_true, Bool.or_eq_true, Bool.not_eq_true', Bool.not_eq_false', Bool.and_eq_false_iff, Bool.or_eq_false_iff, decide_eq_true_eq, decide_eq_false_iff_not, ne_eq, Decidable.not_not] at *; rw [hc33.1]; simp [hc33.2])]
theorem itemCheckP_c (a : Alg) (k : Tag) (x : Item) (hx : x.Box.length ≤ 1000000) : FunA gl Tryd.prog 45 [.v a, .v k, .v x] (fun r => r = .v (itemCheck a k x)) := by
  refine FunA.intro Tryd.func45 rfl (by kernel_rfl) 34 rfl rfl _ rfl fun C hC hG => ?_
  refine .seq ?_
  refine .region rfl ?_
  refine .h (.box (.t rfl) fun b3 => .h (.box (.t rfl) fun b4 => .h (.box (.t rfl) fun b5 => .p (.assign (.i rfl) ?_))))
  refine .nil ?_
  refine .seq ?_
  refine .region rfl ?_
  refine .p (.ldW ty67 (.t rfl) .z (.p (.call1 hG (itemMsgP_c _ hx) (.cons (.t rfl) .nil) (.p (.move (.t rfl) (.p (.ext2_0 (.t rfl) (.p (.ext2_1 (.t rfl) (.p (.assign (.t rfl) ?_)))))))))))
  refine .p (.assign (.t rfl) ?_)
  refine .nil ?_
  refine .seq ?_
  refine .seq ?_
  refine .region rfl ?_
  refine .p (.move (.t rfl) (.p (.neqI (.t rfl) (.i rfl) ?_)))
  refine .nil ?_
  refine .condP (.t rfl) (fun hc17 => ?_) (fun hc17 => ?_)
  · refine .seq ?_
    refine .region rfl ?_
    refine .p (.move (.t rfl) (.p (.assign (.t rfl) ?_)))
    refine .nil ?_
    refine .ret ?_
    refine ⟨_, .r1 rfl (.tmp rfl), ?_⟩
    unfold itemCheck; rw [if_pos (itemErr_msg ▸ hc17), itemErr_msg]
  · refine .skip ?_
    refine .seq ?_
    refine .seq ?_
    refine .region rfl ?_
    refine .p (.ldW ty32 (.t rfl) (.s (.s .z)) (.p (.ldW ty28 (.t rfl) (.s .z) (.p (.move (.t rfl) (.p (.call1 hG (algLook_c _ _ _) (.cons (.t rfl) (.cons (.t rfl) (.cons (.t rfl) .nil))) (.p (.move (.t rfl) (.p (.ext2_0 (.t rfl) ?_)))))))))))
    refine .p (.ext2_1 (.t rfl) (.h (.alloc ty28 fun b9 => .n (.stW ty28 (.t rfl) (.t rfl) .z (.p (.assign (.t rfl) ?_))))))
    refine .nil ?_
    refine .seq ?_
    refine .region rfl ?_
    refine .p (.move (.t rfl) (.p (.not (.t rfl) (.p (.move (.t rfl) ?_)))))
    refine .go 28 rfl (.t rfl) (fun hg29 => .ldW ty28 (.t rfl) .z rfl) ?_
    refine .go 28 rfl (.t rfl) (fun hg30 => .fldW G_api_Item.l5 fd67_5 rfl (.t rfl) rfl) ?_
    refine .go 28 rfl (.t rfl) (fun hg31 => .ldF (fun x => x.Tag) ty28 (.o rfl (beq_iff_eq.2 hg31)) (.s .z) (fun _ => rfl) rfl) ?_
    refine .go 28 rfl (.t rfl) (fun hg32 => .neqA8 Tryd.underlying28 sz5 Tryd.underlying5 gd28 (.o rfl (beq_iff_eq.2 hg32)) (.o rfl (beq_iff_eq.2 hg32)) rfl) ?_
    refine .p (.pickOr (.t rfl) (fun hp => (.o rfl (beq_iff_eq.2 hp))) ?_)
    refine .nil ?_
    refine .cond (.t rfl) (fun hc33 => ?_) (fun hc33 => ?_)
    · refine .seq ?_
      refine .region rfl ?_
      refine .p (.assign (.i rfl) ?_)
      refine .nil ?_
      refine .ret ?_
      refine ⟨_, .r1 rfl (.tmp rfl), ?_⟩
      rw [itemMsg_1 (by omega)] at hc33; unfold itemCheck; rw [if_neg (itemErr_msg ▸ hc17), if_pos (by simp only [Bool.and_eq_true, Bool.or_eq_true, Bool.not_eq_true', Bool.not_eq_false', Bool.and_eq_false_iff, Bool.or_eq_false_iff, decide_eq_true_eq, decide_eq_false_iff_not, ne_eq, Decidable.not_not] at *; exact hc33)]
    · refine .skip ?_
      refine .seq ?_
      refine .region rfl ?_
      refine .p (.assign (.i rfl) ?_)
      refine .nil ?_
      refine .ret ?_
      refine ⟨_, .r1 rfl (.tmp rfl), ?_⟩
      rw [itemMsg_1 (by omega)] at hc33; unfold itemCheck; rw [if_neg (itemErr_msg ▸ hc17), if_neg (by simp only [Bool.and_eq_true, Bool.or_eq_true, Bool.not_eq_true', Bool.not_eq_false', Bool.and_eq_false_iff, Bool.or_eq_false_iff, decide_eq_true_eq, decide_eq_false_iff_not, ne_eq, Decidable.not_not] at *; rw [hc33.1]; simp [hc33.2])]
def sameItem (a b : Item) : Bool := decide (a.Place = b.Place) && decide (a.Kind = b.Kind) && decide (a.Number = b.Number) && decide (a.Node = b.Node) && decide (a.Tag = b.Tag) && decide (a.Box = b.Box)
theorem rSameItem_c (a b : Item) : FunA gl Tryd.prog 49 [.v a, .v b] (fun r => r = .v (sameItem a b)) := by
  refine FunA.intro Tryd.func49 rfl (by kernel_rfl) 45 rfl rfl _ rfl fun C hC hG => ?_
  refine .seq ?_
  refine .region rfl ?_
  refine .h (.box (.t rfl) fun b2 => .h (.box (.t rfl) fun b3 => .p (.assign .b ?_)))
  refine .nil ?_
  refine .seq ?_
  refine .region rfl ?_
  refine .p (.fldW G_api_Item.l0 fd67_0 rfl (.t rfl) (.p (.ldF (fun x => x.Place) ty3 (.t rfl) (.s .z) (fun _ => rfl) (.p (.fldW G_api_Item.l0 fd67_0 rfl (.t rfl) (.p (.ldF (fun x => x.Place) ty3 (.t rfl) .z (fun _ => rfl) (.p (.eqlI (.t rfl) (.t rfl) (.p (.move (.t rfl) ?_)))))))))))
  refine .go 10 rfl (.t rfl) (fun hg11 => .fldW G_api_Item.l1 fd67_1 rfl (.t rfl) rfl) ?_
  refine .go 10 rfl (.t rfl) (fun hg12 => .ldF (fun x => x.Kind) ty3 (.o rfl (beq_iff_eq.2 hg12)) (.s .z) (fun _ => rfl) rfl) ?_
  refine .go 10 rfl (.t rfl) (fun hg13 => .fldW G_api_Item.l1 fd67_1 rfl (.t rfl) rfl) ?_
  refine .go 10 rfl (.t rfl) (fun hg14 => .ldF (fun x => x.Kind) ty3 (.o rfl (beq_iff_eq.2 hg14)) .z (fun _ => rfl) rfl) ?_
  refine .go 10 rfl (.t rfl) (fun hg15 => .eqlI (.o rfl (beq_iff_eq.2 hg15)) (.o rfl (beq_iff_eq.2 hg15)) rfl) ?_
  refine .p (.pickAnd (.t rfl) (fun hp => (.o rfl (beq_iff_eq.2 hp))) (.p (.move (.t rfl) ?_)))
  refine .go 17 rfl (.t rfl) (fun hg18 => .fldW G_api_Item.l2 fd67_2 rfl (.t rfl) rfl) ?_
  refine .go 17 rfl (.t rfl) (fun hg19 => .ldF (fun x => x.Number) ty3 (.o rfl (beq_iff_eq.2 hg19)) (.s .z) (fun _ => rfl) rfl) ?_
  refine .go 17 rfl (.t rfl) (fun hg20 => .fldW G_api_Item.l2 fd67_2 rfl (.t rfl) rfl) ?_
  refine .go 17 rfl (.t rfl) (fun hg21 => .ldF (fun x => x.Number) ty3 (.o rfl (beq_iff_eq.2 hg21)) .z (fun _ => rfl) rfl) ?_
  refine .go 17 rfl (.t rfl) (fun hg22 => .eqlI (.o rfl (beq_iff_eq.2 hg22)) (.o rfl (beq_iff_eq.2 hg22)) rfl) ?_
  refine .p (.pickAnd (.t rfl) (fun hp => (.o rfl (beq_iff_eq.2 hp))) (.p (.move (.t rfl) ?_)))
  refine .go 24 rfl (.t rfl) (fun hg25 => .fldW G_api_Item.l3 fd67_3 rfl (.t rfl) rfl) ?_
  refine .go 24 rfl (.t rfl) (fun hg26 => .ldF (fun x => x.Node) ty28 (.o rfl (beq_iff_eq.2 hg26)) (.s .z) (fun _ => rfl) rfl) ?_
  refine .go 24 rfl (.t rfl) (fun hg27 => .fldW G_api_Item.l3 fd67_3 rfl (.t rfl) rfl) ?_
  refine .go 24 rfl (.t rfl) (fun hg28 => .ldF (fun x => x.Node) ty28 (.o rfl (beq_iff_eq.2 hg28)) .z (fun _ => rfl) rfl) ?_
  refine .go 24 rfl (.t rfl) (fun hg29 => .eqlA8 Tryd.underlying28 sz5 Tryd.underlying5 gd28 (.o rfl (beq_iff_eq.2 hg29)) (.o rfl (beq_iff_eq.2 hg29)) rfl) ?_
  refine .p (.pickAnd (.t rfl) (fun hp => (.o rfl (beq_iff_eq.2 hp))) (.p (.move (.t rfl) ?_)))
  refine .go 31 rfl (.t rfl) (fun hg32 => .fldW G_api_Item.l5 fd67_5 rfl (.t rfl) rfl) ?_
  refine .go 31 rfl (.t rfl) (fun hg33 => .ldF (fun x => x.Tag) ty28 (.o rfl (beq_iff_eq.2 hg33)) (.s .z) (fun _ => rfl) rfl) ?_
  refine .go 31 rfl (.t rfl) (fun hg34 => .fldW G_api_Item.l5 fd67_5 rfl (.t rfl) rfl) ?_
  refine .go 31 rfl (.t rfl) (fun hg35 => .ldF (fun x => x.Tag) ty28 (.o rfl (beq_iff_eq.2 hg35)) .z (fun _ => rfl) rfl) ?_
  refine .go 31 rfl (.t rfl) (fun hg36 => .eqlA8 Tryd.underlying28 sz5 Tryd.underlying5 gd28 (.o rfl (beq_iff_eq.2 hg36)) (.o rfl (beq_iff_eq.2 hg36)) rfl) ?_
  refine .p (.pickAnd (.t rfl) (fun hp => (.o rfl (beq_iff_eq.2 hp))) (.p (.move (.t rfl) ?_)))
  refine .go 38 rfl (.t rfl) (fun hg39 => .fldW G_api_Item.l4 fd67_4 rfl (.t rfl) rfl) ?_
  refine .go 38 rfl (.t rfl) (fun hg40 => .ldF (fun x => x.Box) ty23 (.o rfl (beq_iff_eq.2 hg40)) (.s .z) (fun _ => rfl) rfl) ?_
  refine .go 38 rfl (.t rfl) (fun hg41 => .fldW G_api_Item.l4 fd67_4 rfl (.t rfl) rfl) ?_
  refine .go 38 rfl (.t rfl) (fun hg42 => .ldF (fun x => x.Box) ty23 (.o rfl (beq_iff_eq.2 hg42)) .z (fun _ => rfl) rfl) ?_
  refine .go 38 rfl (.t rfl) (fun hg43 => .call1 hG (Same_c _ _) (.cons (.o rfl (beq_iff_eq.2 hg43)) (.cons (.o rfl (beq_iff_eq.2 hg43)) .nil)) rfl) ?_
  refine .p (.pickAnd (.t rfl) (fun hp => (.o rfl (beq_iff_eq.2 hp))) (.p (.assign (.t rfl) ?_)))
  refine .nil ?_
  refine .ret ?_
  refine ⟨_, .r1 rfl (.tmp rfl), ?_⟩
  rfl
theorem sameItemP_c (a b : Item) : FunA gl Tryd.prog 52 [.v a, .v b] (fun r => r = .v (sameItem a b)) := by
  refine FunA.intro Tryd.func52 rfl (by kernel_rfl) 45 rfl rfl _ rfl fun C hC hG => ?_
  refine .seq ?_
  refine .region rfl ?_
  refine .h (.box (.t rfl) fun b2 => .h (.box (.t rfl) fun b3 => .p (.assign .b ?_)))
  refine .nil ?_
  refine .seq ?_
  refine .region rfl ?_
  refine .p (.fldW G_api_Item.l0 fd67_0 rfl (.t rfl) (.p (.ldF (fun x => x.Place) ty3 (.t rfl) (.s .z) (fun _ => rfl) (.p (.fldW G_api_Item.l0 fd67_0 rfl (.t rfl) (.p (.ldF (fun x => x.Place) ty3 (.t rfl) .z (fun _ => rfl) (.p (.eqlI (.t rfl) (.t rfl) (.p (.move (.t rfl) ?_)))))))))))
  refine .go 10 rfl (.t rfl) (fun hg11 => .fldW G_api_Item.l1 fd67_1 rfl (.t rfl) rfl) ?_
  refine .go 10 rfl (.t rfl) (fun hg12 => .ldF (fun x => x.Kind) ty3 (.o rfl (beq_iff_eq.2 hg12)) (.s .z) (fun _ => rfl) rfl) ?_
  refine .go 10 rfl (.t rfl) (fun hg13 => .fldW G_api_Item.l1 fd67_1 rfl (.t rfl) rfl) ?_
  refine .go 10 rfl (.t rfl) (fun hg14 => .ldF (fun x => x.Kind) ty3 (.o rfl (beq_iff_eq.2 hg14)) .z (fun _ => rfl) rfl) ?_
  refine .go 10 rfl (.t rfl) (fun hg15 => .eqlI (.o rfl (beq_iff_eq.2 hg15)) (.o rfl (beq_iff_eq.2 hg15)) rfl) ?_
  refine .p (.pickAnd (.t rfl) (fun hp => (.o rfl (beq_iff_eq.2 hp))) (.p (.move (.t rfl) ?_)))
  refine .go 17 rfl (.t rfl) (fun hg18 => .fldW G_api_Item.l2 fd67_2 rfl (.t rfl) rfl) ?_
  refine .go 17 rfl (.t rfl) (fun hg19 => .ldF (fun x => x.Number) ty3 (.o rfl (beq_iff_eq.2 hg19)) (.s .z) (fun _ => rfl) rfl) ?_
  refine .go 17 rfl (.t rfl) (fun hg20 => .fldW G_api_Item.l2 fd67_2 rfl (.t rfl) rfl) ?_
  refine .go 17 rfl (.t rfl) (fun hg21 => .ldF (fun x => x.Number) ty3 (.o rfl (beq_iff_eq.2 hg21)) .z (fun _ => rfl) rfl) ?_
  refine .go 17 rfl (.t rfl) (fun hg22 => .eqlI (.o rfl (beq_iff_eq.2 hg22)) (.o rfl (beq_iff_eq.2 hg22)) rfl) ?_
  refine .p (.pickAnd (.t rfl) (fun hp => (.o rfl (beq_iff_eq.2 hp))) (.p (.move (.t rfl) ?_)))
  refine .go 24 rfl (.t rfl) (fun hg25 => .fldW G_api_Item.l3 fd67_3 rfl (.t rfl) rfl) ?_
  refine .go 24 rfl (.t rfl) (fun hg26 => .ldF (fun x => x.Node) ty28 (.o rfl (beq_iff_eq.2 hg26)) (.s .z) (fun _ => rfl) rfl) ?_
  refine .go 24 rfl (.t rfl) (fun hg27 => .fldW G_api_Item.l3 fd67_3 rfl (.t rfl) rfl) ?_
  refine .go 24 rfl (.t rfl) (fun hg28 => .ldF (fun x => x.Node) ty28 (.o rfl (beq_iff_eq.2 hg28)) .z (fun _ => rfl) rfl) ?_
  refine .go 24 rfl (.t rfl) (fun hg29 => .eqlA8 Tryd.underlying28 sz5 Tryd.underlying5 gd28 (.o rfl (beq_iff_eq.2 hg29)) (.o rfl (beq_iff_eq.2 hg29)) rfl) ?_
  refine .p (.pickAnd (.t rfl) (fun hp => (.o rfl (beq_iff_eq.2 hp))) (.p (.move (.t rfl) ?_)))
  refine .go 31 rfl (.t rfl) (fun hg32 => .fldW G_api_Item.l5 fd67_5 rfl (.t rfl) rfl) ?_
  refine .go 31 rfl (.t rfl) (fun hg33 => .ldF (fun x => x.Tag) ty28 (.o rfl (beq_iff_eq.2 hg33)) (.s .z) (fun _ => rfl) rfl) ?_
  refine .go 31 rfl (.t rfl) (fun hg34 => .fldW G_api_Item.l5 fd67_5 rfl (.t rfl) rfl) ?_
  refine .go 31 rfl (.t rfl) (fun hg35 => .ldF (fun x => x.Tag) ty28 (.o rfl (beq_iff_eq.2 hg35)) .z (fun _ => rfl) rfl) ?_
  refine .go 31 rfl (.t rfl) (fun hg36 => .eqlA8 Tryd.underlying28 sz5 Tryd.underlying5 gd28 (.o rfl (beq_iff_eq.2 hg36)) (.o rfl (beq_iff_eq.2 hg36)) rfl) ?_
  refine .p (.pickAnd (.t rfl) (fun hp => (.o rfl (beq_iff_eq.2 hp))) (.p (.move (.t rfl) ?_)))
  refine .go 38 rfl (.t rfl) (fun hg39 => .fldW G_api_Item.l4 fd67_4 rfl (.t rfl) rfl) ?_
  refine .go 38 rfl (.t rfl) (fun hg40 => .ldF (fun x => x.Box) ty23 (.o rfl (beq_iff_eq.2 hg40)) (.s .z) (fun _ => rfl) rfl) ?_
  refine .go 38 rfl (.t rfl) (fun hg41 => .fldW G_api_Item.l4 fd67_4 rfl (.t rfl) rfl) ?_
  refine .go 38 rfl (.t rfl) (fun hg42 => .ldF (fun x => x.Box) ty23 (.o rfl (beq_iff_eq.2 hg42)) .z (fun _ => rfl) rfl) ?_
  refine .go 38 rfl (.t rfl) (fun hg43 => .call1 hG (bytesEqual_c _ _) (.cons (.o rfl (beq_iff_eq.2 hg43)) (.cons (.o rfl (beq_iff_eq.2 hg43)) .nil)) rfl) ?_
  refine .p (.pickAnd (.t rfl) (fun hp => (.o rfl (beq_iff_eq.2 hp))) (.p (.assign (.t rfl) ?_)))
  refine .nil ?_
  refine .ret ?_
  refine ⟨_, .r1 rfl (.tmp rfl), ?_⟩
  rfl
def mkErr (e f : Int) : Int := if e = 0 then f else e
theorem into_mk (w : Value) (s : MkU) (k : Tag) (x : Item) (hx : x.Box.length ≤ 1000000) (hl : s.a.Macs.length ≤ 1000000) : FunH gl Tryd.prog 73 [mp w, .v k, .v x] [.usr w s]
    (fun r Hs => ∃ s' : MkU, Hs = [.usr w s'] ∧ r = .v ({ x with Tag := (mkMac s.a (mkErr s.e (itemErr x)) k (itemMsg x).1).1 } : Item) ∧ s'.a = (mkMac s.a (mkErr s.e (itemErr x)) k (itemMsg x).1).2.1 ∧ s'.e = (mkMac s.a (mkErr s.e (itemErr x)) k (itemMsg x).1).2.2) := by
  refine FunH.introS Tryd.func73 rfl (by kernel_rfl) 27 rfl rfl _ rfl _ rfl fun C hC hG => ?_
  refine .seq ?_
  refine .region rfl ?_
  refine .h (.box (.t rfl) fun b4 => .h (.box (.t rfl) fun b5 => .h (.alloc ty67 fun b6 => ?_)))
  refine .nil ?_
  refine .seq ?_
  refine .region rfl ?_
  refine .p (.ldW ty67 (.t rfl) (.s .z) (.p (.call1 hG (itemMsgP_c _ hx) (.cons (.t rfl) .nil) (.p (.move (.t rfl) (.p (.ext2_0 (.t rfl) (.p (.ext2_1 (.t rfl) (.p (.assign (.t rfl) ?_)))))))))))
  refine .p (.assign (.t rfl) ?_)
  refine .nil ?_
  refine .seq ?_
  refine .region rfl ?_
  refine .p (.move (.t rfl) (.p (.move (.t rfl) (.h (.callM hG (Fail_mk _ _ _) (.s (.s (.s .z))) (.cons (.t rfl) (.cons (.t rfl) .nil)) (by rintro _ _ ⟨_, rfl, _⟩; exact ⟨_, rfl⟩) fun r16 B16 hr16 => ?_)))))
  obtain ⟨x16, hB, ha16, he16⟩ := hr16
  cases hB
  refine .nil ?_
  refine .seq ?_
  refine .region rfl ?_
  refine .p (.fldW G_api_Item.l4 fd67_4 rfl (.t rfl) (.p (.ldF (fun x => x.Box) ty23 (.t rfl) (.s .z) (fun _ => rfl) (.p (.call1 hG (bytesClone_c _ (by first | omega | (simp; done) | (simp; omega) | (simp at *; omega))) (.cons (.t rfl) .nil) (.p (.fldW G_api_Item.l4 fd67_4 rfl (.t rfl) (.n (.stF (fun y x => { x with Box := y }) ty23 (.t rfl) (.t rfl) (.s .z) (fun _ _ => rfl) ?_)))))))))
  refine .nil ?_
  refine .seq ?_
  refine .region rfl ?_
  refine .p (.move (.t rfl) (.p (.ldW ty28 (.t rfl) (.s (.s .z)) (.p (.move (.t rfl) (.h (.callM hG (Mac_mk _ _ _ _ (by rw [ha16]; exact hl)) (.s (.s (.s .z))) (.cons (.t rfl) (.cons (.t rfl) (.cons (.t rfl) .nil))) (by rintro _ _ ⟨_, rfl, _⟩; exact ⟨_, rfl⟩) fun r24 B24 hr24 => ?_)))))))
  obtain ⟨x24, hB, rfl, ha24, he24⟩ := hr24
  cases hB
  refine .p (.fldW G_api_Item.l5 fd67_5 rfl (.t rfl) (.n (.stF (fun y x => { x with Tag := y }) ty28 (.t rfl) (.t rfl) (.s .z) (fun _ _ => rfl) ?_)))
  refine .nil ?_
  refine .seq ?_
  refine .region rfl ?_
  refine .p (.ldW ty67 (.t rfl) (.s .z) (.n (.stW ty67 (.t rfl) (.t rfl) .z ?_)))
  refine .nil ?_
  refine .ret ?_
  refine ⟨_, .r1 rfl (.cell ty67 rfl .z), ?_⟩
  refine ⟨_, .cons (.s (.s (.s .z))) (.nil), ?_⟩
  rw [ha16, he16, itemErr_msg] at ha24 he24 ⊢
  exact ⟨x24, rfl, rfl, ha24, he24⟩
theorem done_mk (w : Value) (s : MkU) (x : Item) : FunH gl Tryd.prog 72 [mp w, .v x] [.usr w s]
    (fun r Hs => ∃ s' : MkU, Hs = [.usr w s'] ∧ r = .t3 (.v (if s.e ≠ 0 then default else rawAlg s.a s.um s.ub)) (.v (if s.e ≠ 0 then default else x)) (.v s.e) ∧ s' = s) := by
  refine FunH.introS Tryd.func72 rfl (by kernel_rfl) 21 rfl rfl _ rfl _ rfl fun C hC hG => ?_
  refine .seq ?_
  refine .region rfl ?_
  refine .h (.box (.t rfl) fun b3 => .h (.alloc tyR32 fun b4 => .h (.alloc ty67 fun b5 => .p (.assign (.i rfl) ?_))))
  refine .nil ?_
  refine .seq ?_
  refine .region rfl ?_
  refine .p (.move (.t rfl) (.h (.callM hG (Done_mk _ _) (.s (.s (.s .z))) (.cons (.t rfl) .nil) (by rintro _ _ ⟨_, rfl, _⟩; exact ⟨_, rfl⟩) fun r11 B11 hr11 => ?_)))
  obtain ⟨x11, hB, rfl, rfl⟩ := hr11
  cases hB
  refine .p (.move (.t rfl) (.p (.ext2_0 (.t rfl) (.p (.ext2_1 (.t rfl) (.h (.alloc tyR32 fun b7 => .n (.stW tyR32 (.t rfl) (.t rfl) .z (.p (.assign (.t rfl) ?_))))))))))
  refine .nil ?_
  refine .seq ?_
  refine .seq ?_
  refine .region rfl ?_
  refine .p (.move (.t rfl) (.p (.neqI (.t rfl) (.i rfl) ?_)))
  refine .nil ?_
  refine .condP (.t rfl) (fun hc15 => ?_) (fun hc15 => ?_)
  · refine .seq ?_
    refine .region rfl ?_
    refine .p (.bS0 (α := G_api_AlgebraR) rfl tyR32 fo32 (.p (.bS0 (α := G_api_Item) rfl ty67 fo67 (.p (.move (.t rfl) (.n (.stW tyR32 (.t rfl) (.t rfl) (.s (.s .z)) (.n (.stW ty67 (.t rfl) (.t rfl) (.s .z) (.p (.assign (.t rfl) ?_)))))))))))
    refine .nil ?_
    refine .ret ?_
    refine ⟨_, .r3 rfl (.cell tyR32 rfl (.s (.s .z))) (.cell ty67 rfl (.s .z)) (.tmp rfl), ?_⟩
    refine ⟨_, .cons (.s (.s (.s (.s .z)))) (.nil), ?_⟩
    rw [if_pos hc15, if_pos hc15]; exact ⟨_, rfl, rfl, rfl⟩
  · refine .skip ?_
    refine .seq ?_
    refine .drawCF [false, true, true, false, false] (by kernel_rfl) 5 [[], [], [(19, 0)], [(20, 1)], []] [2, 3] rfl (by kernel_rfl) rfl (by kernel_rfl) (by decide) ?_
    refine ⟨_, fun H => OpP.ldW tyR32 (.t rfl) (Hole.app .z) rfl, ?_⟩
    refine ⟨_, fun H => OpP.ldW ty67 (.t rfl) (Hole.app (.s (.s (.s .z)))) rfl, ?_⟩
    refine .inl ?_
    refine .inl ?_
    refine ⟨_, fun H => OpP.assign (.i rfl) rfl, ?_⟩
    refine ⟨⟨([], fun k => List.getD [(true, .none_), _, _, (true, .none_), (true, .none_)] k (true, .none_)), rfl⟩, ?_⟩
    refine OpH.stW tyR32 (.t rfl) (.t rfl) (.s (.s .z)) ?_
    refine ⟨⟨([], fun k => List.getD [(true, .none_), _, _, (true, .none_), (true, .none_)] k (true, .none_)), rfl⟩, ?_⟩
    refine OpH.stW ty67 (.t rfl) (.t rfl) (.s .z) ?_
    refine ⟨⟨([], fun k => List.getD [(true, .none_), _, _, (true, .none_), (true, .none_)] k (true, .none_)), rfl⟩, ?_⟩
    show wpB _ _ _ _ _ _ ((6, _) :: (20, _) :: (19, _) :: _) _
    refine .nil ?_
    refine .ret ?_
    refine ⟨_, .r3 rfl (.cell tyR32 rfl (.s (.s .z))) (.cell ty67 rfl (.s .z)) (.tmp rfl), ?_⟩
    refine ⟨_, .cons (.s (.s (.s (.s .z)))) (.nil), ?_⟩
    rw [if_neg hc15, if_neg hc15, show x11.e = 0 by omega]; exact ⟨_, rfl, rfl, rfl⟩
theorem mkSign_done (a : Alg) (k : Tag) (x : Item) : (if (mkMac a (mkErr 0 (itemErr x)) k (itemMsg x).1).2.2 ≠ 0 then (default, default, (mkMac a (mkErr 0 (itemErr x)) k (itemMsg x).1).2.2) else
    ((mkMac a (mkErr 0 (itemErr x)) k (itemMsg x).1).2.1, ({ x with Tag := (mkMac a (mkErr 0 (itemErr x)) k (itemMsg x).1).1 } : Item), 0)) = algSign a k x := by
  unfold algSign mkErr
  rw [if_pos rfl]
  by_cases h : itemErr x = 0
  · rw [h, if_neg (show ¬ (0 : Int) ≠ 0 by decide), mkMac_of rfl rfl, itemMsg_ok h]
    by_cases h2 : (algMac a k (itemBytes x)).2.2 = 0
    · simp only [h2, ne_eq, not_true, if_false, if_true]
    · simp only [ne_eq, h2, not_false_eq_true, if_true]
  · rw [if_pos h, mkMac_err h]; simp only [ne_eq, h, not_false_eq_true, if_true]
theorem sign_c (a : Alg) (k : Tag) (x : Item) (hx : x.Box.length ≤ 1000000) (hl : a.Macs.length ≤ 1000000) : FunA gl Tryd.prog 48 [.v a, .v k, .v x] (fun r => r = .t3 (.v (algSign a k x).1) (.v (algSign a k x).2.1) (.v (algSign a k x).2.2)) := by
  refine FunA.intro Tryd.func48 rfl (by kernel_rfl) 21 rfl rfl _ rfl fun C hC hG => ?_
  refine .seq ?_
  refine .region rfl ?_
  refine .h (.box (.t rfl) fun b3 => .h (.box (.t rfl) fun b4 => .h (.box (.t rfl) fun b5 => .h (.alloc ty32 fun b6 => .h (.alloc ty67 fun b7 => .p (.assign (.i rfl) ?_))))))
  refine .nil ?_
  refine .seq ?_
  refine .region rfl ?_
  refine .p (.ldW ty32 (.t rfl) (.s (.s (.s (.s .z)))) (.h (.call0 hG (Begin_c _) (.cons (.t rfl) .nil) fun r11 Hs11 hr11 => ?_)))
  obtain ⟨w11, x11, rfl, rfl, ha11, he11⟩ := hr11
  show wpB _ _ _ _ _ _ _ ((true, _) :: _)
  refine .p (.assign (.t rfl) ?_)
  refine .nil ?_
  refine .seq ?_
  refine .region rfl ?_
  refine .p (.move (.t rfl) (.p (.move (.t rfl) (.p (.ldW ty28 (.t rfl) (.s (.s (.s (.s .z)))) (.p (.ldW ty67 (.t rfl) (.s (.s (.s .z))) (.h (.callM hG (into_mk _ _ _ _ hx (by rw [ha11]; exact hl)) .z (.cons (.t rfl) (.cons (.t rfl) (.cons (.t rfl) .nil))) (by rintro _ _ ⟨_, rfl, _⟩; exact ⟨_, rfl⟩) fun r16 B16 hr16 => ?_)))))))))
  obtain ⟨x16, hB, rfl, ha16, he16⟩ := hr16
  cases hB
  refine .h (.callM hG (done_mk _ _ _) .z (.cons (.t rfl) (.cons (.t rfl) .nil)) (by rintro _ _ ⟨_, rfl, _⟩; exact ⟨_, rfl⟩) fun r17 B17 hr17 => ?_)
  obtain ⟨x17, hB, rfl, rfl⟩ := hr17
  cases hB
  refine .p (.ext3_0 (.t rfl) ?_)
  refine mkDoneB hC 18 rfl .z ?_
  refine .p (.ext3_1 (.t rfl) (.p (.ext3_2 (.t rfl) (.n (.stW ty32 (.t rfl) (.t rfl) (.s (.s .z)) (.n (.stW ty67 (.t rfl) (.t rfl) (.s .z) (.p (.assign (.t rfl) ?_)))))))))
  refine .nil ?_
  refine .ret ?_
  refine ⟨_, .r3 rfl (.cell ty32 rfl (.s (.s .z))) (.cell ty67 rfl (.s .z)) (.tmp rfl), ?_⟩
  have h := mkSign_done a k x
  rw [ha11, he11] at ha16 he16 ⊢
  rw [← ha16, ← he16] at h
  rw [← h]
  by_cases h0 : x17.e = 0
  · simp only [h0, ne_eq, not_true, if_false]
  · simp only [ne_eq, h0, not_false_eq_true, if_true]
end Go.Proofs.YtiekhjbhlekaeaaDoor
set_option maxRecDepth 1000000
set_option linter.unusedVariables false
set_option linter.unusedSimpArgs false
namespace Go.Proofs.YtiekhjbhlekaeaaDoor
open Go.Fl Go.Ab Go.Mac Go.Sha
structure AlgOk (a : Alg) (n : Nat) : Prop where
  macs : a.Macs.length ≤ n
  boxes : a.Boxes.length ≤ n
  fresh0 : 0 ≤ a.Fresh
  fresh1 : a.Fresh ≤ n
  tag : ∀ i (h : i < a.Macs.length), a.Macs[i].Message.length ≤ 1000 ∧ a.Macs[i].Tag = (if a.Free then symTag 109 (i + 1 : Nat) else hmac a.Macs[i].Key.l a.Macs[i].Message)
  uniq : ∀ i (h : i < a.Macs.length), a.Macs.find? (macEq a.Macs[i].Key a.Macs[i].Message) = some a.Macs[i]
  box : ∀ i (h : i < a.Boxes.length), a.Boxes[i].Plain.length ≤ 256 ∧ 0 ≤ a.Boxes[i].Nonce ∧ a.Boxes[i].Nonce ≤ 281474976710656 ∧
    a.Boxes[i].Box = (if a.Free then (symTag 98 (i + 1 : Nat)).l ++ List.replicate (a.Boxes[i].Plain.length + 8) 0 else realBox a.Boxes[i].Key a.Boxes[i].Nonce a.Boxes[i].Plain)
theorem AlgOk.new (free : Bool) (seed : Tag) (n : Nat) : AlgOk ⟨free, seed, 0, [], []⟩ n :=
  ⟨Nat.zero_le _, Nat.zero_le _, Int.le_refl _, Int.natCast_nonneg _, fun i h => (by cases h), fun i h => (by cases h), fun i h => (by cases h)⟩
theorem AlgOk.le {a : Alg} {n m : Nat} (h : AlgOk a n) (hm : n ≤ m) : AlgOk a m :=
  ⟨Nat.le_trans h.macs hm, Nat.le_trans h.boxes hm, h.fresh0, by have := h.fresh1; omega, h.tag, h.uniq, h.box⟩
theorem AlgOk.key {a : Alg} {n : Nat} (h : AlgOk a n) (hn : n < 65536) : AlgOk (algKey a).1 (n + 1) := by
  have := h.fresh1
  have := h.fresh0
  unfold algKey
  rw [if_neg (by omega)]
  exact ⟨Nat.le_succ_of_le h.macs, Nat.le_succ_of_le h.boxes, by show 0 ≤ a.Fresh + 1; omega, by show a.Fresh + 1 ≤ ((n + 1 : Nat) : Int); omega, h.tag, h.uniq, h.box⟩
theorem macEq_iff (k : Tag) (m : List UInt8) (x : G_api_Mac) : macEq k m x = true ↔ x.Key = k ∧ x.Message = m := by simp [macEq]
theorem AlgOk.mac {a : Alg} {n : Nat} (h : AlgOk a n) (hn : n < 65536) {k : Tag} {m : List UInt8} (hm : m.length ≤ 1000) : AlgOk (algMac a k m).1 (n + 1) := by
  have h1 := h.macs
  cases hf : algFind a k m with
  | some x =>
    have e : algMac a k m = (a, x.Tag, 0) := by unfold algMac; rw [if_neg (by omega), hf]
    rw [e]; exact h.le (Nat.le_succ _)
  | none =>
    rw [algMac_new (by omega) hf (by omega)]
    have hnone : ∀ x ∈ a.Macs, macEq k m x = false := fun x hx => by
      have := List.find?_eq_none.1 hf x hx
      simpa using this
    refine ⟨by simp; exact h1, Nat.le_succ_of_le h.boxes, h.fresh0, by have := h.fresh1; show a.Fresh ≤ _; omega, fun i hi => ?_, fun i hi => ?_, h.box⟩
    · simp only [List.length_append, List.length_singleton] at hi
      by_cases e : i < a.Macs.length
      · simp only [List.getElem_append_left e]; exact h.tag i e
      · obtain rfl : i = a.Macs.length := by omega
        simp only [List.getElem_concat_length]
        refine ⟨hm, ?_⟩
        unfold newTag
        rw [show ((a.Macs.length + 1 : Nat) : Int) = (a.Macs.length : Int) + 1 by omega]
    · simp only [List.length_append, List.length_singleton] at hi
      by_cases e : i < a.Macs.length
      · simp only [List.getElem_append_left e]
        rw [List.find?_append, h.uniq i e]; rfl
      · obtain rfl : i = a.Macs.length := by omega
        simp only [List.getElem_concat_length]
        have : a.Macs.find? (macEq k m) = none := hf
        rw [List.find?_append, this]
        simp [macEq]
theorem AlgOk.boxed {a : Alg} {n : Nat} (h : AlgOk a n) (hn : n < 65536) {k : Tag} {c : Int} {p : List UInt8} (hc0 : 0 ≤ c) (hc1 : c ≤ 281474976710656) (hp : p.length ≤ 256) : AlgOk (algSeal a k c p).1 (n + 1) := by
  have h1 := h.boxes
  have hr : (decide (c < 0) || decide (281474976710656 < c)) = false := by simp; omega
  cases hf : a.Boxes.find? (sealEq k c p) with
  | some x => rw [algSeal_found hr (by omega) hf]; exact h.le (Nat.le_succ _)
  | none =>
    rw [algSeal_new hr (by omega) hf (by omega)]
    refine ⟨Nat.le_succ_of_le h.macs, by simp; exact h1, h.fresh0, by have := h.fresh1; show a.Fresh ≤ _; omega, h.tag, h.uniq, fun i hi => ?_⟩
    simp only [List.length_append, List.length_singleton] at hi
    by_cases e : i < a.Boxes.length
    · simp only [List.getElem_append_left e]; exact h.box i e
    · obtain rfl : i = a.Boxes.length := by omega
      simp only [List.getElem_concat_length]
      refine ⟨hp, hc0, hc1, ?_⟩
      unfold newBox
      rw [show ((a.Boxes.length + 1 : Nat) : Int) = (a.Boxes.length : Int) + 1 by omega]
theorem AlgOk.boxLe {a : Alg} {n : Nat} (h : AlgOk a n) : ∀ x ∈ a.Boxes, x.Box.length ≤ 1000000 := fun x hx => by
  obtain ⟨i, hi, rfl⟩ := List.getElem_of_mem hx
  obtain ⟨h1, _, _, h2⟩ := h.box i hi
  rw [h2]
  split
  · simp; omega
  · simp [realBox, sealHead, be64_length, streamL_length]; omega
theorem Next_e (w : Value) (d : G_macaroonmade_Deck) (n : Int) (hd : DeckOk d) (h0 : 0 < n) (h1 : n ≤ 4611686018427387904) :
    FunH gl Tryd.prog 33 [dk w, .v n] [.ob w d] (fun r Hs => ∃ v : Int, ∃ d', 0 ≤ v ∧ v < n ∧ DeckOk d' ∧ r = .v v ∧ Hs = [.ob w d']) :=
  (Next_c w d n hd h0 h1).mono fun r Hs ⟨h2, h3⟩ => ⟨_, _, (deckNext_le h0).1, (deckNext_le h0).2, deckNext_ok hd, h2, h3⟩
theorem Algebra_deck_c (w : Value) (d : G_macaroonmade_Deck) (hd : DeckOk d) : FunH gl Tryd.prog 18 [dk w] [.ob w d] (fun r Hs => ∃ a : Alg, ∃ d', AlgOk a 4 ∧ DeckOk d' ∧ r = .v a ∧ Hs = [.ob w d']) := by
  refine FunH.introS Tryd.func18 rfl (by kernel_rfl) 56 rfl rfl _ rfl _ rfl fun C hC hG => ?_
  refine .seq ?_
  refine .region rfl ?_
  refine .h (.alloc ty32 fun b2 => ?_)
  refine .nil ?_
  refine .seq ?_
  refine .region rfl ?_
  refine .p (.move (.t rfl) (.h (.callM hG (Next_e _ _ _ (by assumption) (by first | omega | (simp; done) | (simp; omega) | (simp at *; omega)) (by first | omega | (simp; done) | (simp; omega) | (simp at *; omega))) (.s .z) (.cons (.t rfl) (.cons (.i rfl) .nil)) (by rintro _ _ ⟨_, _, _, _, _, _, rfl⟩; exact ⟨_, rfl⟩) fun r6 B6 hr6 => ?_)))
  obtain ⟨v6, d6, h60, h61, hd6, rfl, hB⟩ := hr6
  cases hB
  refine .p (.eqlI (.t rfl) (.i rfl) (.p (.move (.t rfl) (.h (.callM hG (Tag_deck_c _ _ (by assumption)) (.s .z) (.cons (.t rfl) .nil) (by rintro _ _ ⟨_, _, _, _, rfl⟩; exact ⟨_, rfl⟩) fun r9 B9 hr9 => ?_)))))
  obtain ⟨t9, d9, hd9, rfl, hB⟩ := hr9
  cases hB
  refine .p (.call1 hG (rNew_c _ _) (.cons (.t rfl) (.cons (.t rfl) .nil)) (.h (.alloc ty32 fun b3 => .n (.stW ty32 (.t rfl) (.t rfl) .z ?_))))
  refine .nil ?_
  refine .seq ?_
  refine .seq ?_
  refine .region rfl ?_
  refine .p (.move (.t rfl) (.h (.callM hG (Next_e _ _ _ (by assumption) (by first | omega | (simp; done) | (simp; omega) | (simp at *; omega)) (by first | omega | (simp; done) | (simp; omega) | (simp at *; omega))) (.s (.s .z)) (.cons (.t rfl) (.cons (.i rfl) .nil)) (by rintro _ _ ⟨_, _, _, _, _, _, rfl⟩; exact ⟨_, rfl⟩) fun r12 B12 hr12 => ?_)))
  obtain ⟨v12, d12, h120, h121, hd12, rfl, hB⟩ := hr12
  cases hB
  refine .p (.assign (.t rfl) ?_)
  refine .nil ?_
  refine .block ?_
  refine .loopR (α := Nat × Alg × G_macaroonmade_Deck) [(0, _), (2, _), (3, _)] (fun x R => (4, .v (x.1 : Int)) :: R) (fun x => [(true, .ob (ptr b3 0) x.2.1), (true, .ob (ptr b2 0) (default : Alg)), (false, .ob w x.2.2)]) (fun x => x.1 ≤ 4 ∧ AlgOk x.2.1 (4 - x.1) ∧ DeckOk x.2.2) (fun x => x.1) ((v12.toNat, ⟨decide (v6 = 0), t9, 0, [], []⟩, d12)) (.cons rfl (.cons rfl (.cons rfl (.nil _)))) ?_ (.cons (congrArg (fun q => some (AV.v q)) (by dsimp only; omega)) (.cons rfl (.cons rfl (.cons rfl (.nil _))))) (rfl) fun x hF => ?_
  · exact ⟨by dsimp only; omega, AlgOk.new _ _ _, hd12⟩
  obtain ⟨k, a, e⟩ := x
  obtain ⟨hk, ha, he⟩ := hF
  dsimp only at hk ha he ⊢
  refine .seq ?_
  refine .seq ?_
  refine .region rfl ?_
  refine .p (.move (.t rfl) (.p (.gtr (.t rfl) (.i rfl) ?_)))
  refine .nil ?_
  refine .condP (.t rfl) (fun hc14 => ?_) (fun hc14 => ?_)
  · refine .skip ?_
    refine .seq ?_
    refine .block ?_
    refine .seq ?_
    refine .region rfl ?_
    refine .p (.move (.t rfl) (.h (.callM hG (Next_e _ _ _ (by assumption) (by first | omega | (simp; done) | (simp; omega) | (simp at *; omega)) (by first | omega | (simp; done) | (simp; omega) | (simp at *; omega))) (.s (.s .z)) (.cons (.t rfl) (.cons (.i rfl) .nil)) (by rintro _ _ ⟨_, _, _, _, _, _, rfl⟩; exact ⟨_, rfl⟩) fun r18 B18 hr18 => ?_)))
    obtain ⟨v18, d18, h180, h181, hd18, rfl, hB⟩ := hr18
    cases hB
    refine .nil ?_
    refine .block ?_
    refine .seq ?_
    refine .region rfl ?_
    refine .p (.eqlI (.t rfl) (.i rfl) (.p (.assign (.t rfl) ?_)))
    refine .nil ?_
    refine .condP (.t rfl) (fun hc19 => ?_) (fun hc19 => ?_)
    · refine .region rfl ?_
      refine .p (.ldW ty32 (.t rfl) .z (.p (.call1 hG (rKey_c _ ha.fresh0) (.cons (.t rfl) .nil) (.p (.move (.t rfl) (.p (.ext3_0 (.t rfl) (.p (.ext3_1 (.t rfl) (.p (.ext3_2 (.t rfl) ?_)))))))))))
      refine .n (.stW ty32 (.t rfl) (.t rfl) .z ?_)
      refine .nil ?_
      refine .region rfl ?_
      refine .p (.move (.t rfl) (.p (.sub (.t rfl) (.i rfl) (by first | omega | (simp; done) | (simp; omega) | (simp at *; omega)) (by first | omega | (simp; done) | (simp; omega) | (simp at *; omega)) (.p (.assign (.t rfl) ?_)))))
      refine .nil ?_
      refine ⟨(k - 1, _, _), .cons (congrArg (fun q => some (AV.v q)) (by dsimp only; omega)) (.cons rfl (.cons rfl (.cons rfl (.nil _)))), rfl, ?_, by dsimp only; omega⟩
      exact ⟨by dsimp only; omega, by dsimp only; first | exact (ha.key (by omega)).le (by omega) | exact (ha.mac (by omega) (by omega)).le (by omega) | exact (ha.boxed (by omega) (by omega) (by omega) (by omega)).le (by omega) | exact ha.le (by omega), by assumption⟩
    · refine .seq ?_
      refine .region rfl ?_
      refine .p (.eqlI (.t rfl) (.i rfl) (.p (.assign (.t rfl) ?_)))
      refine .nil ?_
      refine .condP (.t rfl) (fun hc27 => ?_) (fun hc27 => ?_)
      · refine .drawZ [[false, false, false], [false, false, true], [false, false, true], [true, false, true]] [[false, false, true], [false, false, false], [false, false, false], [], [false, false, true], [], [false, false, true], [false, false, true], [false, false, true], [true, false, true], [true, false, true], []] [[], [], [6, 7, 8, 9, 10], []] [] 3 (by kernel_rfl) 12 [[], [], [], [(31, 1), (32, 2)], [], [(34, 4)], [(30, 0), (33, 3), (35, 5)], [(36, 6)], [(29, 7)], [(29, 7)], [(29, 7)], [(37, 8)]] [3, 5, 11] rfl (by kernel_rfl) rfl (by kernel_rfl) rfl (by decide) (by simp) (fun p hp => by cases hp) (by kernel_rfl) rfl ?_
        refine ⟨_, fun H => OpP.ldW ty32 (.t rfl) (Hole.app .z) rfl, ?_⟩
        refine ⟨_, fun H => OpP.move (.t rfl) rfl, ?_⟩
        refine ⟨_, fun H => OpP.ldW ty32 (.t rfl) (Hole.app .z) rfl, ?_⟩
        refine .inl ?_
        refine ⟨_, fun H => OpP.move (.t rfl) rfl, ?_⟩
        refine .inl ?_
        refine .inl ?_
        refine .inl ?_
        refine .inl ?_
        refine .inl ?_
        refine .inl ?_
        refine .inl ?_
        refine ⟨rfl, ?_⟩
        refine ⟨⟨fun k => List.getD [(true, .none_), (true, .none_), (true, .none_)] k (true, .none_), rfl⟩, fun Ys9 => ?_⟩
        refine OpH.callM hG (Known_deck_c _ _ _ (by assumption) (by have := ha.macs; omega) (by have := ha.boxes; omega)) (Hole.app (Hole.app (.s (.s .z)))) (.cons (.t rfl) (.cons (.t rfl) .nil)) (by rintro _ _ ⟨_, _, _, _, rfl⟩; exact ⟨_, rfl⟩) fun r33 B33 hr33 => ?_
        obtain ⟨t33, d33, hd33, rfl, hB⟩ := hr33
        cases hB
        refine ⟨[], _, rfl, ?_⟩
        refine ⟨⟨fun k => List.getD [(true, .none_), (true, .none_), _] k (true, .none_), rfl⟩, fun Ys9 => ?_⟩
        refine OpH.callM hG (Bytes_deck_c _ _ _ (by assumption) (by first | omega | (simp; done) | (simp; omega) | (simp at *; omega)) (by first | omega | (simp; done) | (simp; omega) | (simp at *; omega))) (Hole.app (Hole.app (.s (.s .z)))) (.cons (.t rfl) (.cons (.i rfl) .nil)) (by rintro _ _ ⟨_, _, _, _, _, rfl⟩; exact ⟨_, rfl⟩) fun r35 B35 hr35 => ?_
        obtain ⟨l35, hl35, d35, hd35, rfl, hB⟩ := hr35
        cases hB
        refine ⟨[], _, rfl, ?_⟩
        refine ⟨_, fun H => OpP.call1 hG (rMac_c _ _ _) (.cons (.t rfl) (.cons (.t rfl) (.cons (.t rfl) .nil))) rfl, ?_⟩
        refine ⟨_, fun H => OpP.move (.t rfl) rfl, ?_⟩
        refine ⟨_, fun H => OpP.ext3_0 (.t rfl) rfl, ?_⟩
        refine ⟨_, fun H => OpP.ext3_1 (.t rfl) rfl, ?_⟩
        refine ⟨_, fun H => OpP.ext3_2 (.t rfl) rfl, ?_⟩
        refine ⟨⟨fun k => List.getD [(true, .none_), (true, .none_), _] k (true, .none_), rfl⟩, fun Ys9 => ?_⟩
        refine OpH.stW ty32 (.t rfl) (.t rfl) (Hole.app (Hole.app .z)) ?_
        refine ⟨[], _, rfl, ?_⟩
        refine ⟨⟨fun k => List.getD [_, (true, .none_), _] k (true, .none_), rfl⟩, fun ws9 => ?_⟩
        refine ⟨⟨fun k => List.getD [_, (true, .none_), _] k (true, .none_), rfl⟩, fun _ => ?_⟩
        show wpB _ _ _ _ _ _ ((39, _) :: (38, _) :: (37, _) :: (29, _) :: (36, _) :: (35, _) :: (34, _) :: (33, _) :: (32, _) :: (31, _) :: (30, _) :: _) _
        refine .nil ?_
        refine .region rfl ?_
        refine .p (.move (.t rfl) (.p (.sub (.t rfl) (.i rfl) (by first | omega | (simp; done) | (simp; omega) | (simp at *; omega)) (by first | omega | (simp; done) | (simp; omega) | (simp at *; omega)) (.p (.assign (.t rfl) ?_)))))
        refine .nil ?_
        refine ⟨(k - 1, _, _), .cons (congrArg (fun q => some (AV.v q)) (by dsimp only; omega)) (.cons rfl (.cons rfl (.cons rfl (.nil _)))), rfl, ?_, by dsimp only; omega⟩
        exact ⟨by dsimp only; omega, by dsimp only; first | exact (ha.key (by omega)).le (by omega) | exact (ha.mac (by omega) (by omega)).le (by omega) | exact (ha.boxed (by omega) (by omega) (by omega) (by omega)).le (by omega) | exact ha.le (by omega), by assumption⟩
      · refine .seq ?_
        refine .region rfl ?_
        refine .p (.eqlI (.t rfl) (.i rfl) (.p (.assign (.t rfl) ?_)))
        refine .nil ?_
        refine .condP (.t rfl) (fun hc40 => ?_) (fun hc40 => ?_)
        · refine .drawZ [[false, false, false], [false, false, true], [false, false, true], [false, false, true], [true, false, true]] [[false, false, true], [false, false, false], [false, false, false], [], [false, false, true], [], [false, false, true], [], [false, false, true], [false, false, true], [false, false, true], [true, false, true], [true, false, true], []] [[], [], [], [8, 9, 10, 11, 12], []] [] 4 (by kernel_rfl) 14 [[], [], [], [(44, 1), (45, 2)], [], [(47, 4)], [], [(49, 6)], [(43, 0), (46, 3), (48, 5), (50, 7)], [(51, 8)], [(42, 9)], [(42, 9)], [(42, 9)], [(52, 10)]] [3, 5, 7, 13] rfl (by kernel_rfl) rfl (by kernel_rfl) rfl (by decide) (by simp) (fun p hp => by cases hp) (by kernel_rfl) rfl ?_
          refine ⟨_, fun H => OpP.ldW ty32 (.t rfl) (Hole.app .z) rfl, ?_⟩
          refine ⟨_, fun H => OpP.move (.t rfl) rfl, ?_⟩
          refine ⟨_, fun H => OpP.ldW ty32 (.t rfl) (Hole.app .z) rfl, ?_⟩
          refine .inl ?_
          refine ⟨_, fun H => OpP.move (.t rfl) rfl, ?_⟩
          refine .inl ?_
          refine ⟨_, fun H => OpP.move (.t rfl) rfl, ?_⟩
          refine .inl ?_
          refine .inl ?_
          refine .inl ?_
          refine .inl ?_
          refine .inl ?_
          refine .inl ?_
          refine .inl ?_
          refine ⟨rfl, ?_⟩
          refine ⟨⟨fun k => List.getD [(true, .none_), (true, .none_), (true, .none_)] k (true, .none_), rfl⟩, fun Ys11 => ?_⟩
          refine OpH.callM hG (Known_deck_c _ _ _ (by assumption) (by have := ha.macs; omega) (by have := ha.boxes; omega)) (Hole.app (Hole.app (.s (.s .z)))) (.cons (.t rfl) (.cons (.t rfl) .nil)) (by rintro _ _ ⟨_, _, _, _, rfl⟩; exact ⟨_, rfl⟩) fun r46 B46 hr46 => ?_
          obtain ⟨t46, d46, hd46, rfl, hB⟩ := hr46
          cases hB
          refine ⟨[], _, rfl, ?_⟩
          refine ⟨⟨fun k => List.getD [(true, .none_), (true, .none_), _] k (true, .none_), rfl⟩, fun Ys11 => ?_⟩
          refine OpH.callM hG (Next_e _ _ _ (by assumption) (by first | omega | (simp; done) | (simp; omega) | (simp at *; omega)) (by first | omega | (simp; done) | (simp; omega) | (simp at *; omega))) (Hole.app (Hole.app (.s (.s .z)))) (.cons (.t rfl) (.cons (.i rfl) .nil)) (by rintro _ _ ⟨_, _, _, _, _, _, rfl⟩; exact ⟨_, rfl⟩) fun r48 B48 hr48 => ?_
          obtain ⟨v48, d48, h480, h481, hd48, rfl, hB⟩ := hr48
          cases hB
          refine ⟨[], _, rfl, ?_⟩
          refine ⟨⟨fun k => List.getD [(true, .none_), (true, .none_), _] k (true, .none_), rfl⟩, fun Ys11 => ?_⟩
          refine OpH.callM hG (Bytes_deck_c _ _ _ (by assumption) (by first | omega | (simp; done) | (simp; omega) | (simp at *; omega)) (by first | omega | (simp; done) | (simp; omega) | (simp at *; omega))) (Hole.app (Hole.app (.s (.s .z)))) (.cons (.t rfl) (.cons (.i rfl) .nil)) (by rintro _ _ ⟨_, _, _, _, _, rfl⟩; exact ⟨_, rfl⟩) fun r50 B50 hr50 => ?_
          obtain ⟨l50, hl50, d50, hd50, rfl, hB⟩ := hr50
          cases hB
          refine ⟨[], _, rfl, ?_⟩
          refine ⟨_, fun H => OpP.call1 hG (rSeal_c _ _ _ _ ha.boxLe) (.cons (.t rfl) (.cons (.t rfl) (.cons (.t rfl) (.cons (.t rfl) .nil)))) rfl, ?_⟩
          refine ⟨_, fun H => OpP.move (.t rfl) rfl, ?_⟩
          refine ⟨_, fun H => OpP.ext3_0 (.t rfl) rfl, ?_⟩
          refine ⟨_, fun H => OpP.ext3_1 (.t rfl) rfl, ?_⟩
          refine ⟨_, fun H => OpP.ext3_2 (.t rfl) rfl, ?_⟩
          refine ⟨⟨fun k => List.getD [(true, .none_), (true, .none_), _] k (true, .none_), rfl⟩, fun Ys11 => ?_⟩
          refine OpH.stW ty32 (.t rfl) (.t rfl) (Hole.app (Hole.app .z)) ?_
          refine ⟨[], _, rfl, ?_⟩
          refine ⟨⟨fun k => List.getD [_, (true, .none_), _] k (true, .none_), rfl⟩, fun ws11 => ?_⟩
          refine ⟨⟨fun k => List.getD [_, (true, .none_), _] k (true, .none_), rfl⟩, fun _ => ?_⟩
          show wpB _ _ _ _ _ _ ((54, _) :: (53, _) :: (52, _) :: (42, _) :: (51, _) :: (50, _) :: (49, _) :: (48, _) :: (47, _) :: (46, _) :: (45, _) :: (44, _) :: (43, _) :: _) _
          refine .nil ?_
          refine .region rfl ?_
          refine .p (.move (.t rfl) (.p (.sub (.t rfl) (.i rfl) (by first | omega | (simp; done) | (simp; omega) | (simp at *; omega)) (by first | omega | (simp; done) | (simp; omega) | (simp at *; omega)) (.p (.assign (.t rfl) ?_)))))
          refine .nil ?_
          refine ⟨(k - 1, _, _), .cons (congrArg (fun q => some (AV.v q)) (by dsimp only; omega)) (.cons rfl (.cons rfl (.cons rfl (.nil _)))), rfl, ?_, by dsimp only; omega⟩
          exact ⟨by dsimp only; omega, by dsimp only; first | exact (ha.key (by omega)).le (by omega) | exact (ha.mac (by omega) (by omega)).le (by omega) | exact (ha.boxed (by omega) (by omega) (by omega) (by omega)).le (by omega) | exact ha.le (by omega), by assumption⟩
        · refine .skip ?_
          refine .region rfl ?_
          refine .p (.move (.t rfl) (.p (.sub (.t rfl) (.i rfl) (by first | omega | (simp; done) | (simp; omega) | (simp at *; omega)) (by first | omega | (simp; done) | (simp; omega) | (simp at *; omega)) (.p (.assign (.t rfl) ?_)))))
          refine .nil ?_
          refine ⟨(k - 1, _, _), .cons (congrArg (fun q => some (AV.v q)) (by dsimp only; omega)) (.cons rfl (.cons rfl (.cons rfl (.nil _)))), rfl, ?_, by dsimp only; omega⟩
          exact ⟨by dsimp only; omega, by dsimp only; first | exact (ha.key (by omega)).le (by omega) | exact (ha.mac (by omega) (by omega)).le (by omega) | exact (ha.boxed (by omega) (by omega) (by omega) (by omega)).le (by omega) | exact ha.le (by omega), by assumption⟩
  · refine .exit ?_
    refine .seq ?_
    refine .region rfl ?_
    refine .p (.ldW ty32 (.t rfl) .z (.n (.stW ty32 (.t rfl) (.t rfl) (.s .z) ?_)))
    refine .nil ?_
    refine .ret ?_
    refine ⟨_, .r1 rfl (.cell ty32 rfl (.s .z)), ?_⟩
    refine ⟨_, .cons (.s (.s .z)) (.nil), ?_⟩
    exact ⟨a, _, ha.le (by omega), he, rfl, rfl⟩
end Go.Proofs.YtiekhjbhlekaeaaDoor
set_option maxRecDepth 1000000
set_option linter.unusedVariables false
set_option linter.unusedSimpArgs false
namespace Go.Proofs.YtiekhjbhlekaeaaDoor
open Go.Fl Go.Ab Go.Mac Go.Sha
abbrev tag1 : Tag := (Lens.idx 0 (by decide)).set 1 default
theorem deckNew_ok (l : List Int) : DeckOk (⟨l, 0⟩ : G_macaroonmade_Deck) := Int.le_refl 0
theorem Range_e (w : Value) (d : G_macaroonmade_Deck) (lo hi : Int) (hd : DeckOk d) (h : lo ≤ hi) (h0 : -1000000000000000000 ≤ lo) (h1 : hi ≤ 1000000000000000000) :
    FunH gl Tryd.prog 71 [dk w, .v lo, .v hi] [.ob w d] (fun r Hs => ∃ v : Int, ∃ d', lo ≤ v ∧ v ≤ hi ∧ DeckOk d' ∧ r = .v v ∧ Hs = [.ob w d']) := by
  refine FunH.introS Tryd.func71 rfl (by kernel_rfl) 15 rfl rfl _ rfl _ rfl fun C hC hG => ?_
  refine .seq ?_
  refine .region rfl ?_
  refine .p (.assign (.i rfl) ?_)
  refine .nil ?_
  refine .seq ?_
  refine .region rfl ?_
  refine .p (.move (.t rfl) (.p (.move (.t rfl) (.p (.move (.t rfl) (.p (.move (.t rfl) (.p (.sub (.t rfl) (.t rfl) (by first | omega | (simp; done) | (simp; omega) | (simp at *; omega)) (by first | omega | (simp; done) | (simp; omega) | (simp at *; omega)) (.p (.add (.t rfl) (.i rfl) (by first | omega | (simp; done) | (simp; omega) | (simp at *; omega)) (by first | omega | (simp; done) | (simp; omega) | (simp at *; omega)) ?_)))))))))))
  refine .h (.callM hG (Next_e _ _ _ (by assumption) (by first | omega | (simp; done) | (simp; omega) | (simp at *; omega)) (by first | omega | (simp; done) | (simp; omega) | (simp at *; omega))) .z (.cons (.t rfl) (.cons (.t rfl) .nil)) (by rintro _ _ ⟨_, _, _, _, _, _, rfl⟩; exact ⟨_, rfl⟩) fun r13 B13 hr13 => ?_)
  obtain ⟨v13, d13, h013, h113, hd13, rfl, hB⟩ := hr13
  cases hB
  refine .p (.add (.t rfl) (.t rfl) (by first | omega | (simp; done) | (simp; omega) | (simp at *; omega)) (by first | omega | (simp; done) | (simp; omega) | (simp at *; omega)) (.p (.assign (.t rfl) ?_)))
  refine .nil ?_
  refine .ret ?_
  refine ⟨_, .r1 rfl (.tmp rfl), ?_⟩
  refine ⟨_, .cons .z (.nil), ?_⟩
  exact ⟨_, _, by omega, by omega, by assumption, rfl, rfl⟩
theorem Bytes_own (w : Value) (d : G_macaroonmade_Deck) (n : Int) (hd : DeckOk d) (h0 : 0 ≤ n) (h1 : n ≤ 1000000) : FunH gl Tryd.prog 20 [dk w, .v n] [.ob w d] (fun r Hs => ∃ u, ∃ l : List UInt8, (l.length : Int) ≤ n ∧ ∃ d', DeckOk d' ∧ r = .raw u ∧ Hs = [.own 5 u l, .ob w d']) := by
  have hn0 := deckNext_le (d := d) (n := n + 1) (by omega)
  refine FunH.introS Tryd.func20 rfl (by kernel_rfl) 22 rfl rfl _ rfl _ rfl fun C hC hG => ?_
  refine .seq ?_
  refine .region rfl ?_
  refine .p (.assign (.nilS (α := UInt8)) ?_)
  refine .nil ?_
  refine .seq ?_
  refine .region rfl ?_
  refine .p (.assign .raw ?_)
  refine .nil ?_
  refine .seq ?_
  refine .seq ?_
  refine .nilOwn 5 UInt8 ?_
  refine .region rfl ?_
  refine .p (.move (.t rfl) (.p (.move (.t rfl) (.p (.add (.t rfl) (.i rfl) (by first | omega | (simp; done) | (simp; omega) | (simp at *; omega)) (by first | omega | (simp; done) | (simp; omega) | (simp at *; omega)) (.h (.callM hG (Next_c _ _ _ (by assumption) (by first | omega | (simp; done) | (simp; omega) | (simp at *; omega)) (by first | omega | (simp; done) | (simp; omega) | (simp at *; omega))) (.s .z) (.cons (.t rfl) (.cons (.t rfl) .nil)) (by rintro _ _ ⟨_, rfl⟩; exact ⟨_, rfl⟩) fun r10 B10 hr10 => ?_)))))))
  obtain ⟨rfl, hB⟩ := hr10
  cases hB
  refine .p (.assign (.t rfl) ?_)
  refine .nil ?_
  refine .block ?_
  refine .loopR (α := Nat × Value × List UInt8 × G_macaroonmade_Deck) [(0, _)] (fun x R => (5, .raw x.2.1) :: (6, .v (x.1 : Int)) :: R) (fun x => [(true, .own 5 x.2.1 x.2.2.1), (false, .ob w x.2.2.2)]) (fun x => (x.1 : Int) + x.2.2.1.length ≤ n ∧ DeckOk x.2.2.2) (fun x => x.1) (((deckNext d (n + 1)).1.toNat, .slice none 0 0, [], (deckNext d (n + 1)).2)) (.cons rfl (.nil _)) ?_ (.cons rfl (.cons (congrArg (fun q => some (AV.v q)) (by dsimp only; omega)) (.cons rfl (.nil _)))) (rfl) fun x hF => ?_
  · exact ⟨by dsimp only; simp; omega, deckNext_ok hd⟩
  obtain ⟨k, v, b, e⟩ := x
  obtain ⟨h2, h3⟩ := hF
  dsimp only at h2 h3 ⊢
  refine .seq ?_
  refine .seq ?_
  refine .region rfl ?_
  refine .p (.move (.t rfl) (.p (.gtr (.t rfl) (.i rfl) ?_)))
  refine .nil ?_
  refine .condP (.t rfl) (fun hc12 => ?_) (fun hc12 => ?_)
  · refine .skip ?_
    refine .seq ?_
    refine .block ?_
    refine .region rfl ?_
    refine .p (.move (.t rfl) (.p (.move (.t rfl) (.h (.callM hG (Next_c _ _ _ (by assumption) (by first | omega | (simp; done) | (simp; omega) | (simp at *; omega)) (by first | omega | (simp; done) | (simp; omega) | (simp at *; omega))) (.s .z) (.cons (.t rfl) (.cons (.i rfl) .nil)) (by rintro _ _ ⟨_, rfl⟩; exact ⟨_, rfl⟩) fun r17 B17 hr17 => ?_)))))
    obtain ⟨rfl, hB⟩ := hr17
    cases hB
    refine .p (.conv8 Tryd.underlying3 Tryd.underlying5 (.t rfl) (.h (.buildSlice (α := UInt8) ty5 Tryd.underlying23 (.cons (.t rfl) .nil) rfl (by decide) fun b19 => .h (.append st23 (.inl ⟨_, Tryd.underlying23⟩) rfl (.s .z) (.own rfl .z) (by first | omega | (simp; done) | (simp; omega) | (simp at *; omega)) (by first | omega | (simp; done) | (simp; omega) | (simp at *; omega)) (fun w20 => .p (.assign (.t rfl) ?_)) rfl))))
    refine .drop ?_
    refine .nil ?_
    refine .region rfl ?_
    refine .p (.move (.t rfl) (.p (.sub (.t rfl) (.i rfl) (by first | omega | (simp; done) | (simp; omega) | (simp at *; omega)) (by first | omega | (simp; done) | (simp; omega) | (simp at *; omega)) (.p (.assign (.t rfl) ?_)))))
    refine .nil ?_
    refine ⟨(k - 1, w20, _, _), .cons rfl (.cons (congrArg (fun q => some (AV.v q)) (by dsimp only; omega)) (.cons rfl (.nil _))), rfl, ?_, by dsimp only; omega⟩
    exact ⟨by dsimp only; simp; omega, deckNext_ok h3⟩
  · refine .exit ?_
    refine .seq ?_
    refine .region rfl ?_
    refine .p (.move (.t rfl) (.p (.assign (.t rfl) ?_)))
    refine .nil ?_
    refine .ret ?_
    refine ⟨_, .r1 rfl (.tmp rfl), ?_⟩
    refine ⟨_, .cons .z (.cons (.s .z) (.nil)), ?_⟩
    exact ⟨_, _, by omega, _, h3, rfl, rfl⟩
end Go.Proofs.YtiekhjbhlekaeaaDoor
set_option maxRecDepth 1000000
set_option linter.unusedVariables false
set_option linter.unusedSimpArgs false
namespace Go.Proofs.YtiekhjbhlekaeaaDoor
open Go.Fl Go.Ab Go.Mac Go.Sha
structure Made (a : Alg) (n : Nat) (k : Tag) (m : List UInt8) (b : Alg) (t : Tag) : Prop where
  mac : algMac a k m = (b, t, 0)
  again : algMac b k m = (b, t, 0)
  look : algLook b k m = (t, true)
  len : b.Macs.length ≤ a.Macs.length + 1
  len2 : a.Macs.length ≤ b.Macs.length
  old : ∀ i (h : i < a.Macs.length), algLook b a.Macs[i].Key a.Macs[i].Message = (a.Macs[i].Tag, true)
  ok : AlgOk b (n + 1)
theorem AlgOk.lookAt {a : Alg} {n : Nat} (h : AlgOk a n) (i : Nat) (hi : i < a.Macs.length) : algLook a a.Macs[i].Key a.Macs[i].Message = (a.Macs[i].Tag, true) := by
  obtain ⟨h1, h2⟩ := h.tag i hi
  unfold algLook
  cases hf : a.Free with
  | true =>
    rw [if_pos rfl]
    unfold algEntry algFind
    rw [h.uniq i hi]
  | false =>
    rw [if_neg (by decide), if_neg (by omega), h2, hf]; rfl
theorem AlgOk.made {a : Alg} {n : Nat} (h : AlgOk a n) (hn : n < 60000) {k : Tag} {m : List UInt8} (hm : m.length ≤ 1000) : ∃ b t, Made a n k m b t := by
  have h1 := h.macs
  have hok := h.mac (by omega) (k := k) hm
  cases hf : algFind a k m with
  | some x =>
    have e : algMac a k m = (a, x.Tag, 0) := by unfold algMac; rw [if_neg (by omega), hf]
    rw [e] at hok
    obtain ⟨i, hi, rfl⟩ := List.getElem_of_mem (List.mem_of_find?_eq_some hf)
    have hx := (macEq_iff k m _).1 (List.find?_some hf)
    have hl := h.lookAt i hi
    rw [hx.1, hx.2] at hl
    exact ⟨a, _, e, e, hl, by omega, by omega, fun j hj => h.lookAt j hj, hok⟩
  | none =>
    have e := algMac_new (a := a) (k := k) (m := m) (by omega) hf (by omega)
    rw [e] at hok
    have hi : a.Macs.length < (a.Macs ++ [(⟨k, m, newTag a k m⟩ : G_api_Mac)]).length := by simp
    have hl := hok.lookAt a.Macs.length hi
    have hu := hok.uniq a.Macs.length hi
    simp only [List.getElem_concat_length] at hl hu
    refine ⟨_, _, e, ?_, hl, by simp, by simp, fun j hj => ?_, hok⟩
    · unfold algMac algFind
      rw [if_neg (by omega), hu]
    · have hj2 : j < (a.Macs ++ [(⟨k, m, newTag a k m⟩ : G_api_Mac)]).length := by simp; omega
      have := hok.lookAt j hj2
      simp only [List.getElem_append_left hj] at this
      exact this
end Go.Proofs.YtiekhjbhlekaeaaDoor
