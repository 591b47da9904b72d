/- Plain Lean over any program, and walks of this seat's functions: contracts, each proved once (part 3). -/
import Derived.Test.YtkjpkdpnlioffaaDoorZ2
import Derived.Shelf.Bytes.SlJoin
set_option linter.unusedVariables false
namespace Go.Ab
open Go.Fl Go.RowKit
open Rep (rep)
def leB : List Bool → List Bool → Bool
  | [], _ => true
  | a :: ags, [] => !a && leB ags []
  | a :: ags, b :: bs => (!a || b) && leB ags bs
theorem famT_nil (H : AHeap) (f : Nat → Bool × Blk) (k : Nat) : famT [] H f k = H := by simp [famT]
theorem famT_le : ∀ {a b : List Bool}, leB a b = true → ∀ (H : AHeap) (f : Nat → Bool × Blk) (k : Nat), ∃ f', famT a H f k = famT b H f' k
  | a, b, h, [], f, k => ⟨f, by cases a <;> cases b <;> simp [famT]⟩
  | [], b, h, B :: H, f, k => ⟨fun j => (B :: H).getD (j - k) hole0, by
      rw [famT_nil]
      have key : ∀ (b : List Bool) (G : AHeap) (j : Nat), (∀ m, m < G.length → (B :: H).getD (j + m - k) hole0 = G.getD m hole0) → G = famT b G (fun j => (B :: H).getD (j - k) hole0) j := by
        intro b
        induction b with
        | nil => intro G j _; rw [famT_nil]
        | cons x b ih =>
          intro G j hG
          cases G with
          | nil => simp [famT]
          | cons A G =>
            have h0 := hG 0 (by simp)
            simp only [famT]
            have h1 : (bif x then (B :: H).getD (j - k) hole0 else A) = A := by
              cases x
              · rfl
              · simpa using h0
            rw [h1, ← ih G (j + 1) (fun m hm => by
              have := hG (m + 1) (by simp; omega)
              rw [show j + 1 + m - k = j + (m + 1) - k by omega, this]; simp)]
      exact key b (B :: H) k (fun m hm => by rw [show k + m - k = m by omega])⟩
  | x :: a, [], h, B :: H, f, k => by
    simp only [leB, Bool.and_eq_true, Bool.not_eq_true'] at h
    obtain ⟨f', hf'⟩ := famT_le (b := []) h.2 H f (k + 1)
    rw [famT_nil] at hf'
    exact ⟨f, by rw [famT_nil]; simp only [famT, h.1, cond_false, hf']⟩
  | x :: a, y :: b, h, B :: H, f, k => by
    simp only [leB, Bool.and_eq_true] at h
    obtain ⟨f', hf'⟩ := famT_le h.2 H f (k + 1)
    have hcongr : ∀ (b : List Bool) (H : AHeap) (f g : Nat → Bool × Blk) (k : Nat), (∀ j, k ≤ j → f j = g j) → famT b H f k = famT b H g k := by
      intro b
      induction b with
      | nil => intro H f g k _; rw [famT_nil, famT_nil]
      | cons x b ih =>
        intro H f g k hfg
        cases H with
        | nil => simp [famT]
        | cons A H => simp only [famT]; rw [hfg k (Nat.le_refl _), ih H f g (k + 1) (fun j hj => hfg j (by omega))]
    refine ⟨fun j => if j = k then (bif x then f k else B) else f' j, ?_⟩
    simp only [famT, if_true]
    rw [hf', hcongr b H f' (fun j => if j = k then (bif x then f k else B) else f' j) (k + 1) (fun j hj => by rw [if_neg (by omega)])]
    cases x with
    | false => cases y <;> rfl
    | true =>
      have : y = true := by simpa using h.1
      subst this; rfl
def chainQ (P : Program) (N : Nat) (C : Ctx) (σ0 : AEnv) {ι : Type 1} (HT : Nat → ι → AHeap) (ci : List Nat) (F : List (Nat × AV) → Prop) : List Oper → List (List (Nat × Nat)) → Nat → List (Nat × AV) → Prop
  | [], _, _, acc => F acc
  | o :: os, s :: ss, k, acc => bif ci.contains k then chainQ P N C σ0 HT ci F os ss (k + 1) acc ∨ ∃ r, chainQ P N C σ0 HT ci F os ss (k + 1) ((k, r) :: acc) else ∃ r, dutyQ P N C σ0 (HT k) acc o s r ∧ chainQ P N C σ0 HT ci F os ss (k + 1) ((k, r) :: acc)
  | _, [], _, _ => False
theorem chainQ_elim {P : Program} {N : Nat} {C : Ctx} {σ0 : AEnv} {ι : Type 1} {HT : Nat → ι → AHeap} {ci : List Nat} {F : List (Nat × AV) → Prop} : ∀ (os : List Oper) (ss : List (List (Nat × Nat))) (k : Nat) (acc : List (Nat × AV)), (∀ j r, lookR acc j = some r → j < k) → chainQ P N C σ0 HT ci F os ss k acc →
    ∃ full, F full ∧ (∀ j, j < k → lookR full j = lookR acc j) ∧
      ∀ i o s, os[i]? = some o → ss[i]? = some s → k + i ∉ ci → ∃ r acc', lookR full (k + i) = some r ∧ dutyQ P N C σ0 (HT (k + i)) acc' o s r ∧ ∀ j, j < k + i → lookR acc' j = lookR full j
  | [], ss, k, acc, hacc, h => ⟨acc, by cases ss <;> exact h, fun _ _ => rfl, fun i o s ho => by simp at ho⟩
  | o :: os, [], k, acc, _, h => h.elim
  | o :: os, s :: ss, k, acc, hacc, h => by
    simp only [chainQ] at h
    have hacc2 : ∀ r, ∀ j q, lookR ((k, r) :: acc) j = some q → j < k + 1 := fun r j q hj => by
      rw [lookR_cons] at hj
      by_cases e : k = j
      · omega
      · rw [if_neg e] at hj; have := hacc j q hj; omega
    cases hc : ci.contains k with
    | true =>
      rw [hc] at h
      simp only [cond_true] at h
      have fin : ∀ acc2, (∀ j, j < k → lookR acc2 j = lookR acc j) → (∀ j r, lookR acc2 j = some r → j < k + 1) → chainQ P N C σ0 HT ci F os ss (k + 1) acc2 → ∃ full, F full ∧ (∀ j, j < k → lookR full j = lookR acc j) ∧
          ∀ i o' s', (o :: os)[i]? = some o' → (s :: ss)[i]? = some s' → k + i ∉ ci → ∃ r acc', lookR full (k + i) = some r ∧ dutyQ P N C σ0 (HT (k + i)) acc' o' s' r ∧ ∀ j, j < k + i → lookR acc' j = lookR full j := fun acc2 ha hb h => by
        obtain ⟨full, hF, h1, h3⟩ := chainQ_elim os ss (k + 1) acc2 hb h
        refine ⟨full, hF, fun j hj => (h1 j (by omega)).trans (ha j hj), fun i o' s' ho hs hni => ?_⟩
        cases i with
        | zero => exact absurd (by simpa using hc) hni
        | succ i =>
          have e : k + (i + 1) = k + 1 + i := by omega
          rw [e]
          exact h3 i o' s' (by simpa using ho) (by simpa using hs) (by rw [← e]; exact hni)
      rcases h with h | ⟨r, h⟩
      · exact fin acc (fun _ _ => rfl) (fun j r hj => Nat.lt_succ_of_lt (hacc j r hj)) h
      · exact fin ((k, r) :: acc) (fun j hj => by rw [lookR_cons, if_neg (by omega)]) (hacc2 r) h
    | false =>
      rw [hc] at h
      simp only [cond_false] at h
      obtain ⟨r, hd, h⟩ := h
      obtain ⟨full, hF, h1, h3⟩ := chainQ_elim os ss (k + 1) ((k, r) :: acc) (hacc2 r) h
      refine ⟨full, hF, fun j hj => by rw [h1 j (by omega), lookR_cons, if_neg (by omega)], fun i o' s' ho hs hni => ?_⟩
      cases i with
      | zero =>
        simp only [List.getElem?_cons_zero, Option.some.injEq] at ho hs
        subst ho; subst hs
        refine ⟨r, acc, by rw [Nat.add_zero, h1 k (by omega), lookR_cons, if_pos rfl], hd, fun j hj => ?_⟩
        rw [Nat.add_zero] at hj
        rw [h1 j (by omega), lookR_cons, if_neg (by omega)]
      | succ i =>
        have e : k + (i + 1) = k + 1 + i := by omega
        rw [e]
        exact h3 i o' s' (by simpa using ho) (by simpa using hs) (by rw [← e]; exact hni)
def famOk (ops : Array Oper) (n : Nat) (ks ci : List Nat) (bks qs : List (List Bool)) : Bool :=
  (List.range n).all fun i => ks.contains i || ci.contains i || (List.range (ci.length + 1)).all fun k => (List.range k).any (fun m => match ci[m]? with | some j => Region.waitsFor .any ops j i | none => false) || leB (bks.getD k []) (qs.getD i [])
theorem envOf_congr' {σ0 : AEnv} {a b : List (Nat × AV)} {s : List (Nat × Nat)} : ∀ {ts : List Nat}, (∀ t ∈ ts, ∀ j, srcOf s t = some j → lookR a j = lookR b j) → envOf σ0 a s ts = envOf σ0 b s ts
  | [], _ => rfl
  | t :: ts, h => by
    simp only [envOf]
    have h1 := envOf_congr' (σ0 := σ0) (fun u hu => h u (List.mem_cons_of_mem _ hu))
    cases hs : srcOf s t with
    | none => simp only [h1]
    | some j => simp only [h t List.mem_cons_self j hs, h1]
def lateQ (P : Program) (N : Nat) (C : Ctx) (σ0 : AEnv) {ι : Type 1} (HT : ι → AHeap) (acc : List (Nat × AV)) (o : Oper) (s : List (Nat × Nat)) (r : AV) : Prop := ∀ Hp, OpP P N C o (envOf σ0 acc s (opTmps o)) (HT Hp) (fun r' => r' = r)
def prom (P : Program) (N : Nat) (C : Ctx) (σ0 : AEnv) {ι : Type 1} (HT : Nat → ι → AHeap) (accP : List (Nat × AV)) : List (Nat × Oper × List (Nat × Nat)) → List (Nat × AV) → (List (Nat × AV) → Prop) → Prop
  | [], c, K => K c
  | (i, o, s) :: rest, c, K => ∃ r, lateQ P N C σ0 (HT i) (c ++ accP) o s r ∧ prom P N C σ0 HT accP rest ((i, r) :: c) K
def srcFree (ss : List (List (Nat × Nat))) (i : Nat) (L : List Nat) : Bool := match ss[i]? with | some s => s.all (fun p => !(L.contains p.2)) | none => true
theorem srcFree_get {ss : List (List (Nat × Nat))} {i : Nat} {L : List Nat} {s : List (Nat × Nat)} (h : srcFree ss i L = true) (hs : ss[i]? = some s) {t j : Nat} (hj : srcOf s t = some j) : j ∉ L := by
  unfold srcFree at h
  rw [hs] at h
  have h2 := List.all_eq_true.1 h (t, j) (srcOf_mem hj)
  simpa using h2
def lateL (ss : List (List (Nat × Nat))) : List Nat → Bool
  | [] => true
  | i :: r => srcFree ss i (i :: r) && !(r.contains i) && lateL ss r
theorem prom_elim {P : Program} {N : Nat} {C : Ctx} {σ0 : AEnv} {ι : Type 1} {HT : Nat → ι → AHeap} {accP : List (Nat × AV)} {l : List Oper} {ss : List (List (Nat × Nat))} {K : List (Nat × AV) → Prop} : ∀ {L : List Nat} {c : List (Nat × AV)}, lateL ss L = true → prom P N C σ0 HT accP (clOf l ss L) c K →
    ∃ c', K c' ∧ (∀ j, j ∉ L → lookR c' j = lookR c j) ∧ ∀ i o s, i ∈ L → l[i]? = some o → ss[i]? = some s → ∃ r, lookR c' i = some r ∧ lateQ P N C σ0 (HT i) (c' ++ accP) o s r
  | [], c, _, h => ⟨c, h, fun _ _ => rfl, fun i o s hi => by cases hi⟩
  | i :: L, c, hL, h => by
    simp only [lateL, Bool.and_eq_true, Bool.not_eq_true', List.contains_eq_mem, decide_eq_false_iff_not] at hL
    obtain ⟨⟨h1, h2⟩, h3⟩ := hL
    cases ho : l[i]? with
    | none =>
      simp only [clOf, ho] at h
      obtain ⟨c', k1, k2, k3⟩ := prom_elim h3 h
      exact ⟨c', k1, fun j hj => k2 j (fun hx => hj (List.mem_cons_of_mem _ hx)), fun i' o s hi ho' hs => by
        rcases List.mem_cons.1 hi with rfl | hi
        · rw [ho] at ho'; cases ho'
        · exact k3 i' o s hi ho' hs⟩
    | some o =>
      cases hs : ss[i]? with
      | none =>
        simp only [clOf, ho, hs] at h
        obtain ⟨c', k1, k2, k3⟩ := prom_elim h3 h
        exact ⟨c', k1, fun j hj => k2 j (fun hx => hj (List.mem_cons_of_mem _ hx)), fun i' o s hi ho' hs' => by
          rcases List.mem_cons.1 hi with rfl | hi
          · rw [hs] at hs'; cases hs'
          · exact k3 i' o s hi ho' hs'⟩
      | some s =>
        simp only [clOf, ho, hs, prom] at h
        obtain ⟨r, hd, h⟩ := h
        obtain ⟨c', k1, k2, k3⟩ := prom_elim h3 h
        refine ⟨c', k1, fun j hj => ?_, fun i' o' s' hi ho' hs' => ?_⟩
        · rw [List.mem_cons, not_or] at hj
          rw [k2 j hj.2, lookR_cons, if_neg (Ne.symm hj.1)]
        · rcases List.mem_cons.1 hi with rfl | hi
          · rw [ho] at ho'; cases ho'
            rw [hs] at hs'; cases hs'
            refine ⟨r, by rw [k2 i' h2, lookR_cons, if_pos rfl], fun Hp => ?_⟩
            have he : envOf σ0 (c' ++ accP) s (opTmps o) = envOf σ0 (c ++ accP) s (opTmps o) := envOf_congr' fun t _ j hj => by
              have hj2 := srcFree_get h1 hs hj
              rw [List.mem_cons, not_or] at hj2
              rw [lookR_append, lookR_append, k2 j hj2.2, lookR_cons, if_neg (Ne.symm hj2.1)]
            rw [he]; exact hd Hp
          · exact k3 i' o' s' hi ho' hs'
section
variable (P : Program) (C : Ctx) (N : Nat) (σ0 : AEnv) (bs : Nat → List Bool) (HT : Nat → (AHeap × (Nat → Bool × Blk)) → AHeap) (lps : Nat → List (Nat × Oper × List (Nat × Nat))) (H0 : AHeap) (accP : List (Nat × AV)) (al : List (Nat × AT)) (F : List (Nat × AV) → AHeap → AHeap → Prop)
def planZ : List (Nat × Oper × List (Nat × Nat)) → Nat → List (Nat × AV) → AHeap → AHeap → Prop
  | [], k, cacc, Zs, Hr => (∃ f, Hr = famT (bs k) H0 f 0) ∧ ∀ ws : Nat → Nat, F (cacc ++ rA ws al) (Zs ++ (al.map fun p => p.2.blk (ws p.1))) Hr
  | (i, o, s) :: rest, k, cacc, Zs, Hr => (∃ f, Hr = famT (bs k) H0 f 0) ∧ ∀ Ys : AHeap,
    match lookR accP i with
    | none => OpH P C N o (envOf σ0 (cacc ++ accP) s (opTmps o)) (Zs ++ (Ys ++ Hr)) (fun r H' => ∃ Zs' Hr', H' = Zs' ++ (Ys ++ Hr') ∧ prom P N C σ0 HT accP (lps (k + 1)) ((i, r) :: cacc) (fun c => planZ rest (k + 1) c Zs' Hr'))
    | some r0 => OpH P C N o (envOf σ0 (cacc ++ accP) s (opTmps o)) (Zs ++ (Ys ++ Hr)) (fun r H' => r = r0 ∧ ∃ Zs' Hr', H' = Zs' ++ (Ys ++ Hr') ∧ prom P N C σ0 HT accP (lps (k + 1)) ((i, r0) :: cacc) (fun c => planZ rest (k + 1) c Zs' Hr'))
end
theorem planZ.fam {P : Program} {C : Ctx} {N : Nat} {σ0 : AEnv} {bs : Nat → List Bool} {HT : Nat → (AHeap × (Nat → Bool × Blk)) → AHeap} {lps : Nat → List (Nat × Oper × List (Nat × Nat))} {H0 : AHeap} {accP : List (Nat × AV)} {al : List (Nat × AT)} {F : List (Nat × AV) → AHeap → AHeap → Prop} {l : List (Nat × Oper × List (Nat × Nat))} {k : Nat} {cacc : List (Nat × AV)} {Zs Hr : AHeap}
    (h : planZ P C N σ0 bs HT lps H0 accP al F l k cacc Zs Hr) : ∃ f, Hr = famT (bs k) H0 f 0 := by
  cases l with
  | nil => exact h.1
  | cons p l => exact h.1
def guardless (ops : Array Oper) (i : Nat) : Bool := match ops[i]? with | some o => o.guard.isNone | none => false
def chainOkZ (ops : Array Oper) (n : Nat) (ss : List (List (Nat × Nat))) (ks ci : List Nat) (lps : List (List Nat)) (kA : Nat) : Bool :=
  chainOk ops n ss ci && ci.all (guardless ops) && ks.all (fun i => Nat.blt i n && !(ci.contains i)) && (ci.take kA).all (fun i => srcFree ss i ks) && (ci.drop kA).all (fun i => ks.all (fun j => Region.waitsFor .any ops i j)) &&
  (List.range (ci.length + 1)).all (fun m => (lps.getD m []).all (fun i => Nat.blt i n && !(ci.contains i) && !(ks.contains i) && guardless ops i && srcFree ss i ks &&
    (match m with | 0 => false | m' + 1 => (match ci[m']? with | some j => Region.waitsFor .any ops i j | none => false) || (lps.getD m []).any (fun j => Region.waitsFor .any ops i j)) &&
    (List.range (ci.length + 1)).all (fun m2 => Nat.ble m2 m || (match m2 with | 0 => true | m3 + 1 => match ci[m3]? with | some j => srcFree ss i [j] | none => true) && srcFree ss i (lps.getD m2 []) && !((lps.getD m2 []).contains i))) && lateL ss (lps.getD m []))
def lpMem (lps : List (List Nat)) (q i : Nat) : Prop := ∃ m, m ≤ q ∧ i ∈ lps.getD m []
structure InvZ (P : Program) (C : Ctx) (N : Nat) (σ : AEnv) (bs : Nat → List Bool) (HT : Nat → (AHeap × (Nat → Bool × Blk)) → AHeap) (l : List Oper) (ss : List (List (Nat × Nat))) (lps : List (List Nat)) (H0 : AHeap) (full : List (Nat × AV)) (F : List (Nat × AV) → AHeap → AHeap → Prop) (al : List (Nat × AT)) (ci : List Nat) (cp : List (Nat × Oper × List (Nat × Nat)))
    (k : Nat) (c1 : List (Nat × AV)) (Zs Hr : AHeap) (ws : Nat → Nat) (listed : Array Bool) (cacc : List (Nat × AV)) (H : AHeap) : Prop where
  w : ∀ j ∈ ci, listed.getD j false = true → ∀ i, Region.waitsFor .any l.toArray j i = true → listed.getD i false = true
  kle : k ≤ ci.length
  kp : k ≤ cp.length
  ch : ∀ m i, ci[m]? = some i → (listed.getD i false = true ↔ m < k)
  al0 : ∀ j, j ∈ al.map Prod.fst → lookR c1 j = none
  oth : ∀ j, j ∉ al.map Prod.fst → ¬ lpMem lps ci.length j → lookR cacc j = lookR c1 j
  al1 : ∀ j, j ∈ al.map Prod.fst → lookR cacc j = if listed.getD j false = true then lookR (rA ws al) j else none
  lp : ∀ j, lpMem lps ci.length j → lookR cacc j = (if listed.getD j false = true then lookR c1 j else none) ∧ (listed.getD j false = true → lpMem lps k j)
  due : ∀ m i o s, m ≤ k → i ∈ lps.getD m [] → l[i]? = some o → ss[i]? = some s → ∃ r, lookR c1 i = some r ∧ lateQ P N C σ (HT i) (c1 ++ full) o s r
  H : H = Zs ++ (hA (fun j => listed.getD j false) ws al ++ Hr)
  pl : planZ P C N σ bs HT (fun k => clOf l ss (lps.getD k [])) H0 full al F (cp.drop k) k c1 Zs Hr
theorem getD_mono' {listed : Array Bool} (i : Nat) {j : Nat} (h : listed.getD j false = true) : (listed.setIfInBounds i true).getD j false = true := by
  by_cases e : j = i
  · subst e
    rcases Nat.lt_or_ge j listed.size with h2 | h2
    · exact getD_set_true' h2
    · simp [Array.getElem?_eq_none h2] at h
  · rw [getD_set_ne false (Ne.symm e)]; exact h
section
variable {P : Program} {C : Ctx} {N n : Nat} {σ : AEnv} {bs : Nat → List Bool} {HT : Nat → (AHeap × (Nat → Bool × Blk)) → AHeap} {lps : List (List Nat)} {full : List (Nat × AV)} {F : List (Nat × AV) → AHeap → AHeap → Prop} {l : List Oper} {cp : List (Nat × Oper × List (Nat × Nat))} {kA : Nat} {ss : List (List (Nat × Nat))} {al : List (Nat × AT)} {ci : List Nat} {H0 : AHeap} {listed : Array Bool} {cacc c1 : List (Nat × AV)} {H Zs Hr : AHeap} {k : Nat} {ws : Nat → Nat}
structure OkZ (l : List Oper) (n : Nat) (ss : List (List (Nat × Nat))) (ks ci : List Nat) (lps : List (List Nat)) (kA : Nat) : Prop where
  chain : chainOk l.toArray n ss ci = true
  cg : ∀ i ∈ ci, guardless l.toArray i = true
  ksn : ∀ i ∈ ks, i < n ∧ i ∉ ci
  csrc : ∀ m i, m < kA → ci[m]? = some i → srcFree ss i ks = true
  calc_ : ∀ m i, kA ≤ m → ci[m]? = some i → ∀ j ∈ ks, Region.waitsFor .any l.toArray i j = true
  lp : ∀ m i, m ≤ ci.length → i ∈ lps.getD m [] → i < n ∧ i ∉ ci ∧ i ∉ ks ∧ guardless l.toArray i = true ∧ srcFree ss i ks = true ∧ (m ≠ 0 ∧ ∃ j, Region.waitsFor .any l.toArray i j = true ∧ ((∃ m', m = m' + 1 ∧ ci[m']? = some j) ∨ j ∈ lps.getD m [])) ∧
    ∀ m2, m < m2 → m2 ≤ ci.length → (∀ m3 j, m2 = m3 + 1 → ci[m3]? = some j → srcFree ss i [j] = true) ∧ srcFree ss i (lps.getD m2 []) = true ∧ i ∉ lps.getD m2 []
  late : ∀ m, m ≤ ci.length → lateL ss (lps.getD m []) = true
theorem okZ {ks : List Nat} (h : chainOkZ l.toArray n ss ks ci lps kA = true) : OkZ l n ss ks ci lps kA := by
  simp only [chainOkZ, Bool.and_eq_true] at h
  obtain ⟨⟨⟨⟨⟨h1, h2⟩, h3⟩, h4⟩, h4b⟩, h5⟩ := h
  refine ⟨h1, fun i hi => List.all_eq_true.1 h2 i hi, fun i hi => ?_, fun m i hm hi => List.all_eq_true.1 h4 i (List.mem_of_getElem? (i := m) (by rw [List.getElem?_take, if_pos hm]; exact hi)),
    fun m i hm hi j hj => List.all_eq_true.1 (List.all_eq_true.1 h4b i (List.mem_of_getElem? (i := m - kA) (by rw [List.getElem?_drop, show kA + (m - kA) = m by omega]; exact hi))) j hj, fun m i hm hi => ?_, fun m hm => ?_⟩
  · have := List.all_eq_true.1 h3 i hi
    simp only [Bool.and_eq_true, Bool.not_eq_true', List.contains_eq_mem, decide_eq_false_iff_not] at this
    exact ⟨by simpa [Nat.blt_eq] using this.1, this.2⟩
  · have h6 := List.all_eq_true.1 h5 m (List.mem_range.2 (by omega))
    rw [Bool.and_eq_true] at h6
    have h7 := List.all_eq_true.1 h6.1 i hi
    simp only [Bool.and_eq_true, Bool.not_eq_true', List.contains_eq_mem, decide_eq_false_iff_not] at h7
    obtain ⟨⟨⟨⟨⟨⟨a1, a2⟩, a3⟩, a4⟩, a5⟩, a6⟩, a7⟩ := h7
    refine ⟨by simpa [Nat.blt_eq] using a1, a2, a3, a4, a5, ?_, fun m2 hlt hle => ?_⟩
    · cases m with
      | zero => cases a6
      | succ m' =>
        simp only [Bool.or_eq_true] at a6
        refine ⟨by omega, ?_⟩
        rcases a6 with a6 | a6
        · cases hc : ci[m']? with
          | none => rw [hc] at a6; cases a6
          | some j => rw [hc] at a6; exact ⟨j, a6, .inl ⟨m', rfl, hc⟩⟩
        · obtain ⟨j, hj, hw⟩ := List.any_eq_true.1 a6
          exact ⟨j, hw, .inr hj⟩
    · have h8 := List.all_eq_true.1 a7 m2 (List.mem_range.2 (by omega))
      simp only [Bool.or_eq_true, Bool.and_eq_true, Bool.not_eq_true', decide_eq_false_iff_not] at h8
      rcases h8 with h8 | h8
      · have := Nat.le_of_ble_eq_true h8; omega
      · refine ⟨fun m3 j e hj => ?_, h8.1.2, h8.2⟩
        subst e
        have := h8.1.1
        simp only [hj] at this
        exact this
  · have h6 := List.all_eq_true.1 h5 m (List.mem_range.2 (by omega))
    rw [Bool.and_eq_true] at h6
    exact h6.2
theorem srcFree_nil (i : Nat) : srcFree ss i [] = true := by
  unfold srcFree
  cases ss[i]? with
  | none => rfl
  | some s => simp
theorem OkZ.zero {ks : List Nat} (h : OkZ l n ss ks ci lps kA) : OkZ l n ss (([] : List (Nat × AT)).map Prod.fst) ci lps ci.length := by
  refine ⟨h.chain, h.cg, fun i hi => (by cases hi), fun m i _ _ => srcFree_nil i, fun m i hm hi => ?_, fun m i hm hi => ?_, h.late⟩
  · have := (List.getElem?_eq_some_iff.1 hi).1; omega
  · obtain ⟨b1, b2, b3, b4, b5, b6, b7⟩ := h.lp m i hm hi
    exact ⟨b1, b2, by simp, b4, srcFree_nil i, b6, b7⟩
theorem lpMem_mono {q q' j : Nat} (h : lpMem lps q j) (hq : q ≤ q') : lpMem lps q' j := by obtain ⟨m, h1, h2⟩ := h; exact ⟨m, Nat.le_trans h1 hq, h2⟩
theorem lpMem_one (hz : OkZ l n ss (al.map Prod.fst) ci lps kA) {m q j : Nat} (hm : m ≤ ci.length) (hq : q ≤ ci.length) (h : j ∈ lps.getD m []) (hl : lpMem lps q j) : m ≤ q := by
  obtain ⟨m2, h1, h2⟩ := hl
  rcases Nat.lt_or_ge m2 m with h3 | h3
  · exact absurd h ((hz.lp m2 j (by omega) h2).2.2.2.2.2.2 m h3 hm).2.2
  · omega
theorem InvZ.pure (hz : OkZ l n ss (al.map Prod.fst) ci lps kA) {i : Nat} (h : InvZ P C N σ bs HT l ss lps H0 full F al ci cp k c1 Zs Hr ws listed cacc H) (h1 : i ∉ ci) (h2 : i ∉ al.map Prod.fst) (h3 : ¬ lpMem lps ci.length i) : InvZ P C N σ bs HT l ss lps H0 full F al ci cp k c1 Zs Hr ws (listed.setIfInBounds i true) cacc H := by
  have hput : ∀ j, j ≠ i → (listed.setIfInBounds i true).getD j false = listed.getD j false := fun j hj => getD_set_ne false (Ne.symm hj)
  refine ⟨fun j hj hl q hq => getD_mono' i (h.w j hj (by rwa [hput j (fun e => h1 (e ▸ hj))] at hl) q hq), h.kle, h.kp, fun m j hj => ?_, h.al0, h.oth, fun j hj => ?_, fun j hj => ?_, h.due, ?_, h.pl⟩
  · rw [hput j (fun e => h1 (e ▸ List.mem_of_getElem? hj))]; exact h.ch m j hj
  · rw [hput j (fun e => h2 (e ▸ hj))]; exact h.al1 j hj
  · rw [hput j (fun e => h3 (e ▸ hj))]; exact h.lp j hj
  · rw [h.H]
    congr 2
    exact hA_congr fun p hp => ⟨(hput p.1 (fun e => h2 (e ▸ List.mem_map_of_mem hp))).symm, rfl⟩
theorem InvZ.alloc (hz : OkZ l n ss (al.map Prod.fst) ci lps kA) {p : Nat × AT} (hn : (al.map Prod.fst).Nodup) (hp : p ∈ al) (h : InvZ P C N σ bs HT l ss lps H0 full F al ci cp k c1 Zs Hr ws listed cacc H) (hun : listed.getD p.1 false = false) (hlt : p.1 < listed.size) :
    ∃ F', Hole H hole0 F' ∧ ∀ b, InvZ P C N σ bs HT l ss lps H0 full F al ci cp k c1 Zs Hr (upd ws p.1 b) (listed.setIfInBounds p.1 true) ((p.1, p.2.res b) :: cacc) (F' (p.2.blk b)) := by
  have hput : ∀ j, j ≠ p.1 → (listed.setIfInBounds p.1 true).getD j false = listed.getD j false := fun j hj => getD_set_ne false (Ne.symm hj)
  have hset : (listed.setIfInBounds p.1 true).getD p.1 false = true := getD_set_true' hlt
  have hpm : p.1 ∈ al.map Prod.fst := List.mem_map_of_mem hp
  have hd : p.1 ∉ ci := (hz.ksn p.1 hpm).2
  have hlp : ¬ lpMem lps ci.length p.1 := fun ⟨m, hm, hx⟩ => (hz.lp m p.1 hm hx).2.2.1 hpm
  obtain ⟨F', h1, h2⟩ := hA_hole (f := fun j => listed.getD j false) (ws := ws) (H0 := Hr) hn hp hun
  have hH := h.H
  subst hH
  refine ⟨fun X => Zs ++ F' X, Hole.app h1, fun b => ⟨fun j hj hl q hq => getD_mono' p.1 (h.w j hj (by rwa [hput j (fun e => hd (e ▸ hj))] at hl) q hq), h.kle, h.kp, fun m j hj => ?_, h.al0, fun j hj hj2 => ?_, fun j hj => ?_, fun j hj => ?_, h.due, ?_, h.pl⟩⟩
  · rw [hput j (fun e => hd (e ▸ List.mem_of_getElem? hj))]; exact h.ch m j hj
  · rw [lookR_cons, if_neg (fun e : p.1 = j => hj (e ▸ hpm))]; exact h.oth j hj hj2
  · rw [lookR_cons]
    by_cases e : p.1 = j
    · subst e
      rw [if_pos rfl, if_pos hset, lookR_rA hn hp]
      simp [upd]
    · rw [if_neg e, hput j (Ne.symm e), h.al1 j hj, lookR_rA_congr (ws := ws) (ws' := upd ws p.1 b) (by simp [upd, Ne.symm e])]
  · have hne : p.1 ≠ j := fun e => hlp (e ▸ hj)
    rw [lookR_cons, if_neg hne, hput j (Ne.symm hne)]; exact h.lp j hj
  · show Zs ++ F' (p.2.blk b) = _
    rw [h2 b]
    congr 2
    refine hA_congr fun q hq => ⟨?_, rfl⟩
    by_cases e : q.1 = p.1
    · rw [e, if_pos rfl, hset]
    · rw [if_neg e, hput _ e]
theorem InvZ.env (h : InvZ P C N σ bs HT l ss lps H0 full F al ci cp k c1 Zs Hr ws listed cacc H) {i : Nat} {o : Oper} {s : List (Nat × Nat)} (hok : opOkC l.toArray n ss i = true) (hol : l[i]? = some o) (hs : ss[i]? = some s) (hsf : srcFree ss i (al.map Prod.fst) = true) (hw : ∀ j, Region.waitsFor .any l.toArray i j = true → listed.getD j false = true) :
    envOf σ (cacc ++ full) s (opTmps o) = envOf σ (c1 ++ full) s (opTmps o) := envOf_congr' fun t ht j hj => by
  unfold opOkC at hok
  have ho' : l.toArray[i]? = some o := by simpa using hol
  simp only [ho', hs, Bool.and_eq_true] at hok
  have h6 := List.all_eq_true.1 hok.1 t ht
  unfold readOk at h6
  simp only [hj, Bool.and_eq_true] at h6
  have hlj := hw j h6.2
  rw [lookR_append, lookR_append]
  by_cases hjl : lpMem lps ci.length j
  · rw [(h.lp j hjl).1, if_pos hlj]
  · rw [h.oth j (srcFree_get hsf hs hj) hjl]
theorem InvZ.late (hz : OkZ l n ss (al.map Prod.fst) ci lps kA) (hok : ∀ i, i < n → opOkC l.toArray n ss i = true) {m i : Nat} {o : Oper} {s : List (Nat × Nat)} (hm : m ≤ ci.length) (him : i ∈ lps.getD m [])
    (h : InvZ P C N σ bs HT l ss lps H0 full F al ci cp k c1 Zs Hr ws listed cacc H) (hol : l[i]? = some o) (hs : ss[i]? = some s) (hw : ∀ j, Region.waitsFor .any l.toArray i j = true → listed.getD j false = true) (hlt : i < listed.size) (hfam : ∃ q, H = HT i q) (hnone : lookR full i = none) :
    o.guard = none ∧ OpH P C N o (envOf σ (cacc ++ full) s (opTmps o)) H (fun r H' => (∀ r0, lookR full i = some r0 → r = r0) ∧ InvZ P C N σ bs HT l ss lps H0 full F al ci cp k c1 Zs Hr ws (listed.setIfInBounds i true) ((i, r) :: cacc) H') := by
  obtain ⟨b1, b2, b3, b4, b5, ⟨hm0, j, hwj, hcase⟩, b7⟩ := hz.lp m i hm him
  have hmk : m ≤ k := by
    rcases hcase with ⟨m', e, hc⟩ | hj
    · have := (h.ch m' j hc).1 (hw j hwj); omega
    · exact lpMem_one hz hm h.kle hj ((h.lp j ⟨m, hm, hj⟩).2 (hw j hwj))
  obtain ⟨r, hr1, hr2⟩ := h.due m i o s hmk him hol hs
  have hg : o.guard = none := by
    unfold guardless at b4
    simp only [show l.toArray[i]? = some o by simpa using hol] at b4
    exact Option.isNone_iff_eq_none.1 b4
  refine ⟨hg, ?_⟩
  rw [h.env (hok i b1) hol hs b5 hw]
  obtain ⟨q, rfl⟩ := hfam
  have hput : ∀ j, j ≠ i → (listed.setIfInBounds i true).getD j false = listed.getD j false := fun j hj => getD_set_ne false (Ne.symm hj)
  have hset : (listed.setIfInBounds i true).getD i false = true := getD_set_true' hlt
  have hil : lpMem lps ci.length i := ⟨m, hm, him⟩
  refine OpH.ofP (fun ρ I L hs' a w ha hm' => (hr2 q ρ I L hs' a w ha hm').mono ?_)
  rintro v w' ⟨J, X, q1, q2, q3, q4, q5, rfl, r', q6, rfl⟩
  refine ⟨J, [], q1, q2, q3, q4, q5, rfl, r', q6, fun r0 h0 => (by rw [hnone] at h0; cases h0), ⟨fun j hj hl q hq => getD_mono' i (h.w j hj (by rwa [hput j (fun e => b2 (e ▸ hj))] at hl) q hq), h.kle, h.kp, fun m2 j hj => ?_, h.al0, fun j hj hj2 => ?_, fun j hj => ?_, fun j hj => ?_, h.due, ?_, h.pl⟩⟩
  · rw [hput j (fun e => b2 (e ▸ List.mem_of_getElem? hj))]; exact h.ch m2 j hj
  · rw [lookR_cons, if_neg (fun e : i = j => hj2 (e ▸ hil))]; exact h.oth j hj hj2
  · have hne : i ≠ j := fun e => b3 (e ▸ hj)
    rw [lookR_cons, if_neg hne, hput j (Ne.symm hne)]; exact h.al1 j hj
  · by_cases e2 : i = j
    · subst e2
      rw [lookR_cons, if_pos rfl, if_pos hset, hr1]
      exact ⟨rfl, fun _ => ⟨m, hmk, him⟩⟩
    · rw [lookR_cons, if_neg e2, hput j (Ne.symm e2)]; exact h.lp j hj
  · rw [h.H]
    congr 2
    exact hA_congr fun p hp => ⟨(hput p.1 (fun e => b3 (e ▸ List.mem_map_of_mem hp))).symm, rfl⟩
theorem InvZ.chain (hz : OkZ l n ss (al.map Prod.fst) ci lps kA) (hok : ∀ i, i < n → opOkC l.toArray n ss i = true) {i : Nat} {o : Oper} {s : List (Nat × Nat)} (hcl : ∀ (m i : Nat) (o : Oper) (s : List (Nat × Nat)), m < cp.length → ci[m]? = some i → l[i]? = some o → ss[i]? = some s → cp[m]? = some (i, o, s)) (hkA : cp.length ≤ kA ∨ kA = ci.length) (hkc : k < cp.length) (hnd : ci.Nodup) (hin : i < n)
    (h : InvZ P C N σ bs HT l ss lps H0 full F al ci cp k c1 Zs Hr ws listed cacc H) (hi : i ∈ ci) (hol : l[i]? = some o) (hs : ss[i]? = some s) (hun : listed.getD i false = false) (hw : ∀ j, Region.waitsFor .any l.toArray i j = true → listed.getD j false = true) (hlt : i < listed.size) :
    o.guard = none ∧ OpH P C N o (envOf σ (cacc ++ full) s (opTmps o)) H (fun r H' => (∀ r0, lookR full i = some r0 → r = r0) ∧ ∃ c1' Zs' Hr', InvZ P C N σ bs HT l ss lps H0 full F al ci cp (k + 1) c1' Zs' Hr' ws (listed.setIfInBounds i true) ((i, r) :: cacc) H') := by
  have hg : o.guard = none := by
    have := hz.cg i hi
    unfold guardless at this
    simp only [show l.toArray[i]? = some o by simpa using hol] at this
    exact Option.isNone_iff_eq_none.1 this
  have hia : i ∉ al.map Prod.fst := fun hx => (hz.ksn i hx).2 hi
  have hilp : ¬ lpMem lps ci.length i := fun ⟨m, hm, hx⟩ => (hz.lp m i hm hx).2.1 hi
  have hput : ∀ j, j ≠ i → (listed.setIfInBounds i true).getD j false = listed.getD j false := fun j hj => getD_set_ne false (Ne.symm hj)
  obtain ⟨m, hm⟩ := List.mem_iff_getElem?.1 hi
  have hml : m < ci.length := (List.getElem?_eq_some_iff.1 hm).1
  have hmk : ¬ m < k := fun hx => by have := (h.ch m i hm).2 hx; rw [hun] at this; cases this
  have hkm : m ≤ k := by
    have hch := hz.chain
    unfold chainOk at hch
    cases m with
    | zero => omega
    | succ mj =>
      have h1 := List.all_eq_true.1 hch (mj + 1) (List.mem_range.2 hml)
      simp only [hm, Bool.and_eq_true] at h1
      cases hj : ci[mj]? with
      | none => simp [hj] at h1
      | some j =>
        simp only [hj, Bool.and_eq_true] at h1
        have := (h.ch mj j hj).1 (hw j h1.2.2)
        omega
  obtain rfl : m = k := by omega
  have hcc := hcl m i o s hkc hm hol hs
  have hdrop : cp.drop m = (i, o, s) :: cp.drop (m + 1) := by
    have hlt := (List.getElem?_eq_some_iff.1 hcc).1
    rw [List.drop_eq_getElem_cons hlt]
    congr 1
    rw [List.getElem?_eq_getElem hlt] at hcc
    exact Option.some.inj hcc
  have hpl := h.pl
  rw [hdrop, planZ] at hpl
  replace hpl := hpl.2 (hA (fun j => listed.getD j false) ws al)
  refine ⟨hg, ?_⟩
  rw [h.env (hok i hin) hol hs (hz.csrc m i (by omega) hm) hw]
  have hnext : ∀ r Zs' Hr', prom P N C σ HT full (clOf l ss (lps.getD (m + 1) [])) ((i, r) :: c1) (fun c => planZ P C N σ bs HT (fun k => clOf l ss (lps.getD k [])) H0 full al F (cp.drop (m + 1)) (m + 1) c Zs' Hr') →
      ∃ c1' Zs'' Hr'', InvZ P C N σ bs HT l ss lps H0 full F al ci cp (m + 1) c1' Zs'' Hr'' ws (listed.setIfInBounds i true) ((i, r) :: cacc) (Zs' ++ (hA (fun j => listed.getD j false) ws al ++ Hr')) := fun r Zs' Hr' hq => by
    obtain ⟨c', k1, k2, k3⟩ := prom_elim (hz.late (m + 1) (by omega)) hq
    have hLlp : ∀ j, j ∈ lps.getD (m + 1) [] → lpMem lps ci.length j := fun j hj => ⟨m + 1, by omega, hj⟩
    refine ⟨c', Zs', Hr', fun j hj hl q hwq => ?_, by omega, by omega, fun m' i' hm' => ?_, fun j hj => ?_, fun j hj hj2 => ?_, fun j hj => ?_, fun j hj => ?_, fun m2 i2 o2 s2 hm2 hi2 ho2 hs2 => ?_, ?_, k1⟩
    · by_cases e : j = i
      · subst e; exact getD_mono' j (hw q hwq)
      · exact getD_mono' i (h.w j hj (by rwa [hput j e] at hl) q hwq)
    · by_cases e : i' = i
      · subst e
        have h1 := (List.getElem?_eq_some_iff.1 hm')
        have h2 := (List.getElem?_eq_some_iff.1 hm)
        have : m' = m := (List.getElem_inj (h₀ := h1.1) (h₁ := h2.1) hnd).1 (by rw [h1.2, h2.2])
        subst this
        exact ⟨fun _ => by omega, fun _ => getD_set_true' hlt⟩
      · rw [hput i' e, h.ch m' i' hm']
        have : m' ≠ m := by rintro rfl; rw [hm] at hm'; exact e (Option.some.inj hm').symm
        omega
    · rw [k2 j (fun hx => (hz.lp (m + 1) j (by omega) hx).2.2.1 hj), lookR_cons, if_neg (fun e => hia (by rw [e]; exact hj))]; exact h.al0 j hj
    · rw [k2 j (fun hx => hj2 (hLlp j hx)), lookR_cons, lookR_cons, h.oth j hj hj2]
    · have hji : j ≠ i := fun e => hia (e ▸ hj)
      rw [lookR_cons, if_neg (Ne.symm hji), hput j hji]; exact h.al1 j hj
    · have hji : j ≠ i := fun e => hilp (e ▸ hj)
      rw [lookR_cons, if_neg (Ne.symm hji), hput j hji, (h.lp j hj).1]
      refine ⟨?_, fun hl => lpMem_mono ((h.lp j hj).2 hl) (Nat.le_succ _)⟩
      split
      · rename_i hl
        have hkk := (h.lp j hj).2 hl
        rw [k2 j (fun hx => by have := lpMem_one hz (by omega) (by omega) hx hkk; omega), lookR_cons, if_neg (Ne.symm hji)]
      · rfl
    · rcases Nat.lt_or_ge m m2 with hlt2 | hge2
      · obtain rfl : m2 = m + 1 := by omega
        exact k3 i2 o2 s2 hi2 ho2 hs2
      · obtain ⟨r2, d1, d2⟩ := h.due m2 i2 o2 s2 hge2 hi2 ho2 hs2
        obtain ⟨e1, e2, e3⟩ := (hz.lp m2 i2 (by omega) hi2).2.2.2.2.2.2 (m + 1) (by omega) (by omega)
        have hi2i : i2 ≠ i := fun e => (hz.lp m2 i2 (by omega) hi2).2.1 (e ▸ hi)
        refine ⟨r2, by rw [k2 i2 e3, lookR_cons, if_neg (Ne.symm hi2i)]; exact d1, fun Hp => ?_⟩
        have he : envOf σ (c' ++ full) s2 (opTmps o2) = envOf σ (c1 ++ full) s2 (opTmps o2) := envOf_congr' fun t _ j hj => by
          have hj1 := srcFree_get (e1 m i rfl hm) hs2 hj
          have hj2 := srcFree_get e2 hs2 hj
          have hji : j ≠ i := fun e => hj1 (by simp [e])
          rw [lookR_append, lookR_append, k2 j hj2, lookR_cons, if_neg (Ne.symm hji)]
        rw [he]; exact d2 Hp
    · congr 2
      exact hA_congr fun p hp => ⟨(hput p.1 (fun e => hia (e ▸ List.mem_map_of_mem hp))).symm, rfl⟩
  have hH := h.H
  subst hH
  cases hr : lookR full i with
  | none =>
    rw [hr] at hpl
    exact hpl.mono fun r H' ⟨Zs', Hr', e, hq⟩ => ⟨fun r0 h0 => (by cases h0), e ▸ hnext r Zs' Hr' hq⟩
  | some r0 =>
    rw [hr] at hpl
    exact hpl.mono fun r H' ⟨er, Zs', Hr', e, hq⟩ => ⟨fun q h0 => by cases h0; exact er, by subst er; exact e ▸ hnext _ Zs' Hr' hq⟩
theorem InvZ.toB {F2 : List (Nat × AV) → AHeap → AHeap → Prop} {cp2 : List (Nat × Oper × List (Nat × Nat))} (hz : OkZ l n ss (al.map Prod.fst) ci lps kA) (hnal : (al.map Prod.fst).Nodup)
    (hF : ∀ c Zs Hr, F c Zs Hr → planZ P C N σ bs HT (fun k => clOf l ss (lps.getD k [])) H0 full [] F2 (cp2.drop cp.length) cp.length c Zs Hr)
    (h : InvZ P C N σ bs HT l ss lps H0 full F al ci cp k c1 Zs Hr ws listed cacc H) (hk : k = cp.length) (hcp : cp.length ≤ cp2.length) (hall : ∀ j ∈ al.map Prod.fst, listed.getD j false = true) :
    InvZ P C N σ bs HT l ss lps H0 full F2 [] ci cp2 k (c1 ++ rA ws al) (Zs ++ (al.map fun p => p.2.blk (ws p.1))) Hr ws listed cacc H := by
  subst hk
  have hpl := h.pl
  rw [List.drop_length, planZ] at hpl
  refine ⟨h.w, h.kle, hcp, h.ch, fun j hj => (by cases hj), fun j _ hj2 => ?_, fun j hj => (by cases hj), fun j hj => ?_, fun m i o s hm hi ho hs => ?_, ?_, hF _ _ _ (hpl.2 ws)⟩
  · rw [lookR_append]
    by_cases hja : j ∈ al.map Prod.fst
    · rw [h.al0 j hja, h.al1 j hja, if_pos (hall j hja)]
    · rw [h.oth j hja hj2, lookR_rA_none hja]
      cases lookR c1 j <;> rfl
  · have hja : j ∉ al.map Prod.fst := fun hx => by
      obtain ⟨m, hm, hi⟩ := hj
      exact (hz.lp m j hm hi).2.2.1 hx
    rw [lookR_append, (h.lp j hj).1, lookR_rA_none hja]
    refine ⟨?_, (h.lp j hj).2⟩
    cases lookR c1 j <;> rfl
  · obtain ⟨r, d1, d2⟩ := h.due m i o s hm hi ho hs
    have hsf := (hz.lp m i (Nat.le_trans hm h.kle) hi).2.2.2.2.1
    refine ⟨r, by rw [lookR_append, d1], fun Hp => ?_⟩
    have he : envOf σ ((c1 ++ rA ws al) ++ full) s (opTmps o) = envOf σ (c1 ++ full) s (opTmps o) := envOf_congr' fun t _ j hj => by
      have hj2 := srcFree_get hsf hs hj
      rw [lookR_append, lookR_append, lookR_append, lookR_rA_none hj2]
      cases lookR c1 j <;> rfl
    rw [he]; exact d2 Hp
  · rw [h.H, hA_all fun p hp => hall p.1 (List.mem_map_of_mem hp), List.append_assoc]
    rfl
theorem InvZ.famI {bks qs : List (List Bool)} {ks : List Nat} {i : Nat} (hq : famOk l.toArray n ks ci bks qs = true) (h : InvZ P C N σ (fun k => bks.getD k []) HT l ss lps H0 full F al ci cp k c1 Zs Hr ws listed cacc H) (hin : i < n) (hna1 : i ∉ ks) (hnc : i ∉ ci) (hun : listed.getD i false = false) :
    ∃ q : AHeap × (Nat → Bool × Blk), H = q.1 ++ famT (qs.getD i []) H0 q.2 0 := by
  obtain ⟨f, hf⟩ := h.pl.fam
  have hk := h.kle
  have hle : leB (bks.getD k []) (qs.getD i []) = true := by
    have h1 := List.all_eq_true.1 hq i (List.mem_range.2 hin)
    simp only [Bool.or_eq_true, List.contains_eq_mem, decide_eq_true_eq] at h1
    rcases h1 with (h1 | h1) | h1
    · exact absurd h1 hna1
    · exact absurd h1 hnc
    · have h2 := List.all_eq_true.1 h1 k (List.mem_range.2 (by omega))
      simp only [Bool.or_eq_true] at h2
      rcases h2 with h2 | h2
      · obtain ⟨m, hm, hw⟩ := List.any_eq_true.1 h2
        have hmk := List.mem_range.1 hm
        cases hci : ci[m]? with
        | none => rw [hci] at hw; cases hw
        | some j =>
          rw [hci] at hw
          have h3 := h.w j (List.mem_of_getElem? hci) ((h.ch m j hci).2 hmk) i hw
          rw [hun] at h3; cases h3
      · exact h2
  obtain ⟨f', hf'⟩ := famT_le hle H0 f 0
  exact ⟨(Zs ++ hA (fun j => listed.getD j false) ws al, f'), by rw [h.H, hf, hf', List.append_assoc]⟩
theorem clOf_append (a b : List Nat) : clOf l ss (a ++ b) = clOf l ss a ++ clOf l ss b := by
  induction a with
  | nil => rfl
  | cons i a ih =>
    simp only [List.cons_append, clOf, ih]
    split <;> rfl
theorem clOf_length : ∀ (c : List Nat), (∀ i ∈ c, i < l.length ∧ i < ss.length) → (clOf l ss c).length = c.length
  | [], _ => rfl
  | i :: c, h => by
    obtain ⟨h1, h2⟩ := h i List.mem_cons_self
    simp only [clOf, List.getElem?_eq_getElem h1, List.getElem?_eq_getElem h2, List.length_cons]
    rw [clOf_length c (fun j hj => h j (List.mem_cons_of_mem _ hj))]
end
theorem wpA.drawZ {P : Program} {C : Ctx} {N : Nat} {Q : Exit → AEnv → AHeap → Prop} {σ : AEnv} {H : AHeap} {id : Nat} {l : List Oper} (bks : List (List Bool)) (qs : List (List Bool)) (lps : List (List Nat)) (al : List (Nat × AT)) (kA : Nat) (hm : P.follows .mixedOrders = true) (n : Nat) (ss : List (List (Nat × Nat))) (ci : List Nat)
    (hN : dstOk N l = true) (hB : phiOkC l.toArray n ss = true) (hss : Nat.ble n ss.length = true) (hC : chainOkZ l.toArray n ss (al.map Prod.fst) ci lps kA = true) (hkA : Nat.ble kA ci.length = true) (hnd : ci.Nodup) (hna : (al.map Prod.fst).Nodup)
    (hal : ∀ p ∈ al, ∀ o, l[p.1]? = some o → o.guard = none ∧ ∀ σ' H', OpH P C N o σ' H' (fun r H'' => ∃ b, r = p.2.res b ∧ H'' = p.2.blk b :: H'))
    (hq : famOk l.toArray n (al.map Prod.fst) ci bks qs = true) (hlen : Nat.ble lps.length (ci.length + 1) = true)
    (h : chainQ P N C σ (fun i (q : AHeap × (Nat → Bool × Blk)) => q.1 ++ famT (qs.getD i []) H q.2 0) (al.map Prod.fst ++ (lps.flatten ++ ci)) (fun accP => ((al.map Prod.fst ++ lps.flatten).all fun i => (lookR accP i).isNone) = true ∧
      planZ P C N σ (fun k => bks.getD k []) (fun i (q : AHeap × (Nat → Bool × Blk)) => q.1 ++ famT (qs.getD i []) H q.2 0) (fun k => clOf l ss (lps.getD k [])) H accP al
        (planZ P C N σ (fun k => bks.getD k []) (fun i (q : AHeap × (Nat → Bool × Blk)) => q.1 ++ famT (qs.getD i []) H q.2 0) (fun k => clOf l ss (lps.getD k [])) H accP []
          (fun cacc Zs Hr => wpB P C N l.toArray Q (l.drop n) (finA (cacc ++ accP) (l.take n) 0 σ) (Zs ++ Hr)) (clOf l ss (ci.drop kA)) kA) (clOf l ss (ci.take kA)) 0 [] [] H) (l.take n) ss 0 []) :
    wpA P C N (.region id l.toArray true) Q σ H := .padN (al := al) (by
  have hB0 := hB
  simp only [phiOkC, Bool.and_eq_true, Bool.or_eq_true] at hB
  obtain ⟨⟨⟨⟨⟨hle, hback⟩, hok⟩, hdst⟩, htail⟩, hseq⟩ := hB
  have hle' : n ≤ l.length := by simpa using Nat.le_of_ble_eq_true hle
  have hok' : ∀ i, i < n → opOkC l.toArray n ss i = true := fun i hi => List.all_eq_true.1 hok i (List.mem_range.2 hi)
  have hssl := Nat.le_of_ble_eq_true hss
  obtain ⟨full, ⟨hnone, hF⟩, _, hd⟩ := chainQ_elim (l.take n) ss 0 [] (fun j r hj => by simp [lookR] at hj) h
  have hz := okZ hC
  have hC' := hz.chain
  unfold chainOk at hC'
  have hcin : ∀ i ∈ ci, i < n := fun i hi => by
    obtain ⟨m, hm⟩ := List.mem_iff_getElem?.1 hi
    have h1 := List.all_eq_true.1 hC' m (List.mem_range.2 (List.getElem?_eq_some_iff.1 hm).1)
    simp only [hm, Bool.and_eq_true] at h1
    simpa [Nat.blt_eq] using h1.1
  have hlpf : ∀ i, i ∈ lps.flatten ↔ lpMem lps ci.length i := fun i => by
    have hll := Nat.le_of_ble_eq_true hlen
    constructor
    · intro hi
      obtain ⟨L, hL, hi⟩ := List.mem_flatten.1 hi
      obtain ⟨m, hm, rfl⟩ := List.getElem_of_mem hL
      exact ⟨m, by omega, by simpa [List.getD, hm] using hi⟩
    · rintro ⟨m, _, hi⟩
      by_cases hm2 : m < lps.length
      · simp [List.getD, hm2] at hi
        exact List.mem_flatten.2 ⟨_, List.getElem_mem hm2, hi⟩
      · simp [List.getD, hm2] at hi
  have hcl := clOf_get (l := l) (ss := ss) ci (fun i hi => ⟨_, _, List.getElem?_eq_getElem (Nat.lt_of_lt_of_le (hcin i hi) hle'), List.getElem?_eq_getElem (Nat.lt_of_lt_of_le (hcin i hi) hssl)⟩)
  have hp : ∀ i o s, i < n → i ∉ al.map Prod.fst ++ (lps.flatten ++ ci) → l[i]? = some o → ss[i]? = some s → ∃ r, lookR full i = some r ∧ dutyQ P N C σ (fun q : AHeap × (Nat → Bool × Blk) => q.1 ++ famT (qs.getD i []) H q.2 0) full o s r := fun i o s hi hic ho hsi => by
    obtain ⟨r, acc', h1, h2, h3⟩ := hd i o s (by rw [List.getElem?_take, if_pos hi]; exact ho) hsi (by simpa using hic)
    rw [Nat.zero_add] at h1 h2 h3
    refine ⟨r, h1, fun H' => ?_⟩
    have hoi := hok' i hi
    unfold opOkC at hoi
    have ho' : l.toArray[i]? = some o := by simpa using ho
    simp only [ho', hsi, Bool.and_eq_true] at hoi
    have hback' : ∀ j, Region.waitsFor .any l.toArray i j = true → j < i := fun j hw => by
      obtain ⟨e, he, hb, heq⟩ := waits_mem ho' hw
      have hil : i < l.toArray.size := (Array.getElem?_eq_some_iff.1 ho').1
      have h4 := List.all_eq_true.1 hback i (List.mem_range.2 hil)
      simp only [ho', Array.all_eq_true_iff_forall_mem] at h4
      have h5 := h4 e he
      rw [hb] at h5
      have : e.on < i := by simpa [Nat.blt_eq] using h5
      omega
    have henv : ∀ t ∈ opTmps o, ∀ j, srcOf s t = some j → lookR acc' j = lookR full j := fun t ht j hj => by
      have h6 := List.all_eq_true.1 hoi.1 t ht
      unfold readOk at h6
      simp only [hj, Bool.and_eq_true] at h6
      exact h3 j (hback' j h6.2)
    have hdd := h2 H'
    unfold dutyA at hdd ⊢
    rw [← envOf_congr' henv]
    cases hg : o.guard with
    | none => rw [hg] at hdd; exact hdd
    | some p =>
      obtain ⟨g, want⟩ := p
      rw [hg] at hdd
      have h6 := hoi.2
      rw [hg] at h6
      simp only [Bool.and_eq_true] at h6
      simp only at hdd ⊢
      rw [← h3 g (hback' g h6.1.2)]; exact hdd
  have hkA' := Nat.le_of_ble_eq_true hkA
  have hvalid : ∀ c : List Nat, (∀ i ∈ c, i ∈ ci) → ∀ i ∈ c, i < l.length ∧ i < ss.length := fun c hc i hi => ⟨Nat.lt_of_lt_of_le (hcin i (hc i hi)) hle', Nat.lt_of_lt_of_le (hcin i (hc i hi)) hssl⟩
  have hlA : (clOf l ss (ci.take kA)).length = kA := by
    rw [clOf_length _ (hvalid _ (fun i hi => List.mem_of_mem_take hi)), List.length_take]; omega
  have hlB : (clOf l ss ci).length = ci.length := clOf_length _ (hvalid _ (fun i hi => hi))
  have hdrop : (clOf l ss ci).drop (clOf l ss (ci.take kA)).length = clOf l ss (ci.drop kA) := by
    have := clOf_append (l := l) (ss := ss) (ci.take kA) (ci.drop kA)
    rw [List.take_append_drop] at this
    rw [this, List.drop_left]
  have hclA : ∀ (m i : Nat) (o : Oper) (s : List (Nat × Nat)), m < (clOf l ss (ci.take kA)).length → ci[m]? = some i → l[i]? = some o → ss[i]? = some s → (clOf l ss (ci.take kA))[m]? = some (i, o, s) := fun m i o s hm hi ho hs =>
    clOf_get (ci.take kA) (fun i hi => by
      obtain ⟨h1, h2⟩ := hvalid _ (fun i hi => List.mem_of_mem_take hi) i hi
      exact ⟨_, _, List.getElem?_eq_getElem h1, List.getElem?_eq_getElem h2⟩) m i o s (by rw [List.getElem?_take, if_pos (by omega)]; exact hi) ho hs
  have hzB := hz.zero
  let FB : List (Nat × AV) → AHeap → AHeap → Prop := fun cacc Zs Hr => wpB P C N l.toArray Q (l.drop n) (finA (cacc ++ full) (l.take n) 0 σ) (Zs ++ Hr)
  let FA : List (Nat × AV) → AHeap → AHeap → Prop := planZ P C N σ (fun k => bks.getD k []) (fun i (q : AHeap × (Nat → Bool × Blk)) => q.1 ++ famT (qs.getD i []) H q.2 0) (fun k => clOf l ss (lps.getD k [])) H full [] FB (clOf l ss (ci.drop kA)) kA
  have htoB : ∀ {k c1 Zs Hr ws listed cacc H'}, InvZ P C N σ (fun k => bks.getD k []) (fun i (q : AHeap × (Nat → Bool × Blk)) => q.1 ++ famT (qs.getD i []) H q.2 0) l ss lps H full FA al ci (clOf l ss (ci.take kA)) k c1 Zs Hr ws listed cacc H' → k = kA → (∀ j ∈ al.map Prod.fst, listed.getD j false = true) →
      InvZ P C N σ (fun k => bks.getD k []) (fun i (q : AHeap × (Nat → Bool × Blk)) => q.1 ++ famT (qs.getD i []) H q.2 0) l ss lps H full FB [] ci (clOf l ss ci) k (c1 ++ rA ws al) (Zs ++ (al.map fun p => p.2.blk (ws p.1))) Hr ws listed cacc H' := fun {k c1 Zs Hr ws listed cacc H'} hiv hk hall =>
    hiv.toB hz hna (fun c Zs Hr h => by rw [hdrop, hlA]; exact h) (by rw [hlA]; exact hk) (by rw [hlA, hlB]; exact hkA') hall
  refine wpA.drawG' (fun i (q : AHeap × (Nat → Bool × Blk)) => q.1 ++ famT (qs.getD i []) H q.2 0) hm n ss (al.map Prod.fst ++ (lps.flatten ++ ci)) hN hB0 full
    (fun listed cacc H' => (∃ k c1 Zs Hr ws, InvZ P C N σ (fun k => bks.getD k []) (fun i (q : AHeap × (Nat → Bool × Blk)) => q.1 ++ famT (qs.getD i []) H q.2 0) l ss lps H full FA al ci (clOf l ss (ci.take kA)) k c1 Zs Hr ws listed cacc H') ∨
      ((∀ j ∈ al.map Prod.fst, listed.getD j false = true) ∧ ∃ k c1 Zs Hr ws, InvZ P C N σ (fun k => bks.getD k []) (fun i (q : AHeap × (Nat → Bool × Blk)) => q.1 ++ famT (qs.getD i []) H q.2 0) l ss lps H full FB [] ci (clOf l ss ci) k c1 Zs Hr ws listed cacc H')) ?_ hp ?_ ?_ ?_ ?_
  · refine .inl ⟨0, [], [], H, fun _ => 0, fun j _ hl => (by rw [getD_replicate_false] at hl; cases hl), Nat.zero_le _, Nat.zero_le _, fun m i hi => ⟨fun hl => ?_, fun h => by omega⟩, fun j _ => rfl, fun j _ _ => rfl, fun j _ => ?_, fun j _ => ⟨?_, fun hl => ?_⟩, fun m i o s hm hi => ?_, ?_, hF⟩
    · rw [getD_replicate_false] at hl; cases hl
    · rw [if_neg (by rw [getD_replicate_false]; decide)]; rfl
    · rw [if_neg (by rw [getD_replicate_false]; decide)]; rfl
    · rw [getD_replicate_false] at hl; cases hl
    · obtain ⟨_, _, _, _, _, ⟨hm0, _⟩, _⟩ := hz.lp m i (by omega) hi
      omega
    · rw [List.nil_append]
      congr 1
      exact (List.map_congr_left fun p _ => by simp only [getD_replicate_false]; rfl)
  · rintro listed cacc H' i hiv hin hnc hun
    rw [List.mem_append, List.mem_append, not_or, not_or] at hnc
    rcases hiv with ⟨k, c1, Zs, Hr, ws, hiv⟩ | ⟨_, k, c1, Zs, Hr, ws, hiv⟩
    · exact hiv.famI hq hin hnc.1 hnc.2.2 hun
    · exact hiv.famI hq hin hnc.1 hnc.2.2 hun
  · rintro listed cacc H' i hiv hni
    rw [List.mem_append, List.mem_append, not_or, not_or] at hni
    rcases hiv with ⟨k, c1, Zs, Hr, ws, hiv⟩ | ⟨hall, k, c1, Zs, Hr, ws, hiv⟩
    · exact .inl ⟨k, c1, Zs, Hr, ws, hiv.pure hz hni.2.2 hni.1 (fun hx => hni.2.1 ((hlpf i).2 hx))⟩
    · exact .inr ⟨fun j hj => getD_mono' i (hall j hj), k, c1, Zs, Hr, ws, hiv.pure hzB hni.2.2 (by simp) (fun hx => hni.2.1 ((hlpf i).2 hx))⟩
  · rintro listed cacc H' i o s hiv hic hol hs hun hw hlt
    rcases List.mem_append.1 hic with hk | hc
    · obtain ⟨p, hp, rfl⟩ := List.mem_map.1 hk
      obtain ⟨hg, hop⟩ := hal p hp o hol
      rcases hiv with ⟨k, c1, Zs, Hr, ws, hiv⟩ | ⟨hall, _⟩
      · obtain ⟨F', h1, h2⟩ := hiv.alloc hz hna hp hun hlt
        refine ⟨hg, OpH.into h1 ((hop _ _).mono fun r H'' ⟨b, hr, hH⟩ => ⟨_, hH, fun r0 h0 => ?_, by rw [hr]; exact .inl ⟨k, c1, Zs, Hr, _, h2 b⟩⟩)⟩
        have h3 := List.all_eq_true.1 hnone p.1 (List.mem_append_left _ hk)
        rw [h0] at h3; cases h3
      · rw [hall p.1 hk] at hun; cases hun
    · rcases List.mem_append.1 hc with hlp | hc
      · obtain ⟨m, hm, him⟩ := (hlpf i).1 hlp
        have hlz := hz.lp m i hm him
        have h3 := List.all_eq_true.1 hnone i (List.mem_append_right _ hlp)
        rcases hiv with ⟨k, c1, Zs, Hr, ws, hiv⟩ | ⟨hall, k, c1, Zs, Hr, ws, hiv⟩
        · obtain ⟨hg, hop⟩ := hiv.late hz hok' hm him hol hs hw hlt (hiv.famI hq hlz.1 hlz.2.2.1 hlz.2.1 hun) (Option.isNone_iff_eq_none.1 h3)
          exact ⟨hg, hop.mono fun r H' ⟨q1, q2⟩ => ⟨q1, .inl ⟨k, c1, Zs, Hr, ws, q2⟩⟩⟩
        · obtain ⟨hg, hop⟩ := hiv.late hzB hok' hm him hol hs hw hlt (hiv.famI hq hlz.1 hlz.2.2.1 hlz.2.1 hun) (Option.isNone_iff_eq_none.1 h3)
          exact ⟨hg, hop.mono fun r H' ⟨q1, q2⟩ => ⟨q1, .inr ⟨fun j hj => getD_mono' i (hall j hj), k, c1, Zs, Hr, ws, q2⟩⟩⟩
      · obtain ⟨m, hm⟩ := List.mem_iff_getElem?.1 hc
        have hml : m < ci.length := (List.getElem?_eq_some_iff.1 hm).1
        have hstepB : (∀ j ∈ al.map Prod.fst, listed.getD j false = true) → ∀ {k c1 Zs Hr ws}, InvZ P C N σ (fun k => bks.getD k []) (fun i (q : AHeap × (Nat → Bool × Blk)) => q.1 ++ famT (qs.getD i []) H q.2 0) l ss lps H full FB [] ci (clOf l ss ci) k c1 Zs Hr ws listed cacc H' →
            o.guard = none ∧ OpH P C N o (envOf σ (cacc ++ full) s (opTmps o)) H' (fun r H' => (∀ r0, lookR full i = some r0 → r = r0) ∧ ((∃ k c1 Zs Hr ws, InvZ P C N σ (fun k => bks.getD k []) (fun i (q : AHeap × (Nat → Bool × Blk)) => q.1 ++ famT (qs.getD i []) H q.2 0) l ss lps H full FA al ci (clOf l ss (ci.take kA)) k c1 Zs Hr ws (listed.setIfInBounds i true) ((i, r) :: cacc) H') ∨
              ((∀ j ∈ al.map Prod.fst, (listed.setIfInBounds i true).getD j false = true) ∧ ∃ k c1 Zs Hr ws, InvZ P C N σ (fun k => bks.getD k []) (fun i (q : AHeap × (Nat → Bool × Blk)) => q.1 ++ famT (qs.getD i []) H q.2 0) l ss lps H full FB [] ci (clOf l ss ci) k c1 Zs Hr ws (listed.setIfInBounds i true) ((i, r) :: cacc) H'))) := fun hall {k c1 Zs Hr ws} hiv => by
          have hkc : k < (clOf l ss ci).length := by
            rw [hlB]
            rcases Nat.lt_or_ge k ci.length with h | h
            · exact h
            · have := (hiv.ch m i hm).2 (by omega)
              rw [hun] at this; cases this
          obtain ⟨hg, hop⟩ := hiv.chain hzB hok' (fun m i o s _ => hcl m i o s) (.inr rfl) hkc hnd (hcin i hc) hc hol hs hun hw hlt
          exact ⟨hg, hop.mono fun r H' ⟨q1, c1', Zs', Hr', q2⟩ => ⟨q1, .inr ⟨fun j hj => getD_mono' i (hall j hj), k + 1, c1', Zs', Hr', ws, q2⟩⟩⟩
        rcases hiv with ⟨k, c1, Zs, Hr, ws, hiv⟩ | ⟨hall, k, c1, Zs, Hr, ws, hiv⟩
        · rcases Nat.lt_or_ge k (clOf l ss (ci.take kA)).length with hkc | hkc
          · obtain ⟨hg, hop⟩ := hiv.chain hz hok' hclA (.inl (Nat.le_of_eq hlA)) hkc hnd (hcin i hc) hc hol hs hun hw hlt
            exact ⟨hg, hop.mono fun r H' ⟨q1, c1', Zs', Hr', q2⟩ => ⟨q1, .inl ⟨k + 1, c1', Zs', Hr', ws, q2⟩⟩⟩
          · have hke : k = kA := by have := hiv.kp; omega
            have hmk : kA ≤ m := by
              rcases Nat.lt_or_ge m k with h | h
              · have := (hiv.ch m i hm).2 h
                rw [hun] at this; cases this
              · omega
            have hall : ∀ j ∈ al.map Prod.fst, listed.getD j false = true := fun j hj => hw j (hz.calc_ m i hmk hm j hj)
            exact hstepB hall (htoB hiv hke hall)
        · exact hstepB hall hiv
  · rintro listed cacc H' hiv hall
    have hlist : ∀ j ∈ al.map Prod.fst, listed.getD j false = true := fun j hj => hall j (hz.ksn j hj).1
    have hend : ∀ {k c1 Zs Hr ws}, InvZ P C N σ (fun k => bks.getD k []) (fun i (q : AHeap × (Nat → Bool × Blk)) => q.1 ++ famT (qs.getD i []) H q.2 0) l ss lps H full FB [] ci (clOf l ss ci) k c1 Zs Hr ws listed cacc H' → wpB P C N l.toArray Q (l.drop n) (finA (cacc ++ full) (l.take n) 0 σ) H' := fun {k c1 Zs Hr ws} hiv => by
      have hk := hiv.kle
      have hk' : k = ci.length := by
        rcases Nat.lt_or_ge k ci.length with h | h
        · have := (hiv.ch k _ (List.getElem?_eq_getElem h)).1 (hall _ (hcin _ (List.getElem_mem h)))
          omega
        · omega
      have hpl := hiv.pl
      rw [hk', List.drop_eq_nil_of_le (Nat.le_of_eq hlB), planZ] at hpl
      have h2 : wpB P C N l.toArray Q (l.drop n) (finA ((c1 ++ rA ws []) ++ full) (l.take n) 0 σ) ((Zs ++ []) ++ Hr) := hpl.2 ws
      rw [hiv.H]
      rw [List.append_nil] at h2
      rw [finA_congr (b := (c1 ++ rA ws []) ++ full) fun j => ?_]
      · exact h2
      · rw [lookR_append, lookR_append, lookR_append]
        by_cases hjl : lpMem lps ci.length j
        · obtain ⟨m, hm, him⟩ := hjl
          rw [(hiv.lp j ⟨m, hm, him⟩).1, if_pos (hall j (hz.lp m j hm him).1)]
          cases lookR c1 j <;> rfl
        · rw [hiv.oth j (by simp) hjl]
          cases lookR c1 j <;> rfl
    rcases hiv with ⟨k, c1, Zs, Hr, ws, hiv⟩ | ⟨_, k, c1, Zs, Hr, ws, hiv⟩
    · have hk' : k = kA := by
        have h1 := hiv.kp
        rw [hlA] at h1
        rcases Nat.lt_or_ge k kA with h | h
        · have hkl : k < ci.length := by omega
          have := (hiv.ch k _ (List.getElem?_eq_getElem hkl)).1 (hall _ (hcin _ (List.getElem_mem hkl)))
          omega
        · omega
      exact hend (htoB hiv hk' hlist)
    · exact hend hiv)
end Go.Ab
set_option linter.unusedVariables false
namespace Go.Ab
open Go.Fl Go.RowKit
open Rep (rep)
section rules
variable {P : Program} {C : Ctx} {N : Nat} {σ : AEnv} {H : AHeap} {d : Option Nat} {ty : TypeId} {ps : String} {af : Array Edge} {g : Option (Nat × Bool)} {K : AV → Prop} {KH : AV → AHeap → Prop} {x y z : Operand} {T T2 E S D U : TypeId} {o : Oper}
theorem OpP.slArrPC {β : Type} {n : Nat} {s : Rep β} {ag : Bool} {a : Arr n β} (hn : n ≤ 9223372036854775807) (hf : elemOff P T = some (n, Rep.size β, ag)) (hx : EvA C σ H x (.p a)) (k : K (.vc a.l)) : OpP P N C ⟨d, .slice T x none none none, ty, ps, af, g⟩ σ H K :=
  .vk k (fun ρ I L hs => by
    obtain ⟨u, h2, b, o, cs, rfl, h3, h4⟩ := hx ρ I L hs
    refine .sliceArr hf h2 ⟨⟨some ⟨b, o, none⟩, by rw [a.h]⟩, cs, ?_, h3⟩
    have hl := h3.len
    rw [a.h] at hl ⊢
    exact Sl.of_cells h4 hl (Nat.le_refl _) (by unfold maxLen; omega))
theorem appendXZ {m n by_ : Nat} {ρ : Env} {I : Im} {L : Lh} {zv : Value} {xs : List Value} {a0 : Option Addr} (hT : P.underlying T = some (.slice E)) (h1 : OneT P E by_ zv) (hz1 : zv.cells = #[zv]) (hone : zv.oneCell' = true) (hU : P.underlying U = some (.int .i64))
    (hx : ev ρ x = some (.slice a0 n n)) (hsl : Sl I 1 (.slice a0 n n) n xs) (hy : ev ρ y = some (i64 (m : Int))) (hb : (n + m) * by_ ≤ 140737488355328) (hn : n + m ≤ 9223372036854775807) :
    OpX P N ⟨d, .call ⟨.builtin .append, #[x, y], #[T, U]⟩, ty, ps, af, g⟩ ρ I L (fun v' J X => J = I ∧ ((X = [] ∧ m = 0 ∧ v' = .slice a0 n n) ∨ ∃ Y, X = [Y] ∧ OwnG E 1 v' (n + m) (xs ++ List.replicate m zv) Y)) := by
  obtain ⟨inf, hi, hz, hsz, hs2⟩ := h1.get
  refine OpX.push fun a w ha hm => ?_
  have hzc : ∀ q, Builtin.zeroCells zv.cells q = (List.replicate q zv).toArray := fun q => by
    apply Array.ext'
    simp [Builtin.zeroCells, hz1, Nat.mod_one]
    rw [List.map_const']
    simp
  have hw : IntKind.wrap .i64 (m : Int) = (m : Int) := wrap_i64 (by omega) (by omega)
  have hm00 : ¬ ((m : Int) < 0) := by omega
  have hw0 : IntKind.wrap .i64 0 = 0 := wrap_i64 (by omega) (by omega)
  rw [← hs2] at hb
  have hmb : ¬ ((m : Int) * (inf.bytes : Int) > 281474976710656) := by
    have : m * inf.bytes ≤ (n + m) * inf.bytes := Nat.mul_le_mul_right _ (by omega)
    have h2 : ((m * inf.bytes : Nat) : Int) ≤ 140737488355328 := Int.ofNat_le.2 (Nat.le_trans this hb)
    rw [Int.natCast_mul] at h2
    omega
  have hmb' : ¬ (281474976710656 < (m : Int) * (inf.bytes : Int)) := hmb
  have hop : ∀ r, (Builtin.append_ #[T, U] ty #[.slice a0 n n, i64 (m : Int)]).run P w = r → (execOp a.eval ⟨d, .call ⟨.builtin .append, #[x, y], #[T, U]⟩, ty, ps, af, g⟩).run P w = r.andThen fun v w' => .ok (.value v) w' := fun r hr => by
    simp [execOp, resolve, invoke, builtin, ha.ev hx, ha.ev hy, hr]
  by_cases hm0 : m = 0
  · left
    subst hm0
    refine ⟨.slice a0 n n, ?_, rfl, .inl ⟨rfl, rfl, rfl⟩⟩
    rw [hop (.ok (.slice a0 n n) w)]
    · rfl
    · cases a0 <;> simp [Builtin.append_, run_underlying hT, run_underlying hU, sizeOf, typeInfo, zeroValue, hi, hz, asInt, asIntOf, hw0, storeCells]
  · right
    have hlt : n < n + m := by omega
    have hold : (Builtin.firstCells 1 n (.slice a0 n n)).run P w.drew = .ok xs.toArray w.drew := by
      have hm' : Mem I L w.drew := ⟨hm.im, hm.loc, hm.sep, hm.nodup⟩
      have := (Src.sl (P := P) (L := L) hsl).cells w.drew hm' n (Nat.le_refl _)
      rw [← hsl.len, List.take_length] at this; exact this
    have hge := grownCap_ge w (n + m) n E
    have hcm : grownCap w (n + m) n E ≤ maxLen := grownCap_le_maxLen w _ _ E (by unfold maxLen; omega)
    have hfit : ¬ (281474976710656 < Builtin.nextslicecap (n + m) n * inf.bytes) := by have := growslice_fits hlt hb; omega
    have hnle : ¬ (n + m ≤ n) := by omega
    have h63' : ¬ (9223372036854775807 < ((n : Int) + (m : Int))) := by omega
    have hr : (Builtin.append_ #[T, U] ty #[.slice a0 n n, i64 (m : Int)]).run P w = .ok (.slice (some ⟨w.heap.size, 0, none⟩) (n + m) (grownCap w (n + m) n E))
        (w.drew.alloc (.cells (xs.toArray ++ (List.replicate m zv).toArray ++ Builtin.zeroCells zv.cells (grownCap w (n + m) n E - (n + m))) E)) := by
      simp [Builtin.append_, run_underlying hT, run_underlying hU, sizeOf, typeInfo, zeroValue, hi, hz, asInt, asIntOf, hw, hm00, hmb', hnle, h63', hfit, Question.forced, newRow, grownCap, hold, hsz, hzc, hm0]
    refine ⟨.slice (some ⟨w.heap.size, 0, none⟩) (n + m) (grownCap w (n + m) n E), w.drew.alloc (.cells (xs.toArray ++ (List.replicate m zv).toArray ++ Builtin.zeroCells zv.cells (grownCap w (n + m) n E - (n + m))) E),
      .cells (xs.toArray ++ (List.replicate m zv).toArray ++ Builtin.zeroCells zv.cells (grownCap w (n + m) n E - (n + m))) E, by rw [hop _ hr]; rfl, rfl, rfl, rfl, rfl, rfl, .inr ⟨_, rfl, ?_⟩⟩
    have hxl : xs.length = n * 1 := hsl.len
    refine .inr ⟨w.heap.size, grownCap w (n + m) n E, (Builtin.zeroCells zv.cells (grownCap w (n + m) n E - (n + m))).toList, (0, 0), rfl, ?_, ?_, ?_, hge, hcm, .inl rfl⟩
    · congr 3
      apply Array.ext'; simp
    · rw [List.length_append, hxl, List.length_replicate, Nat.add_mul]; omega
    · rw [hzc]
      simp only [List.length_append, hxl, List.length_replicate]
      omega
theorem OpP.appendZC {α : Type} {r : Rep α} {i0 : Inhabited α} {by_ : Nat} {l : List α} {m : Int} {zv : Value} (hT : P.underlying T = some (.slice E)) (h1 : OneT P E by_ zv) (hz1 : zv.cells = #[zv]) (hone : zv.oneCell' = true) (hsz : Rep.size α = 1)
    (hz : ∀ I, rep I (default : α) [zv]) (hU : P.underlying U = some (.int .i64)) (hx : EvA C σ H x (.vc l)) (hy : EvA C σ H y (.v m)) (h0 : 0 ≤ m) (hb : (l.length + m.toNat) * by_ ≤ 140737488355328) (hn : l.length + m.toNat ≤ 9223372036854775807)
    (k : K (.v (l ++ List.replicate m.toNat (default : α)))) : OpP P N C ⟨d, .call ⟨.builtin .append, #[x, y], #[T, U]⟩, ty, ps, af, g⟩ σ H K := fun ρ I L hs => by
  obtain ⟨u, h2, ⟨a0, rfl⟩, xs, hsl, hrl⟩ := hx ρ I L hs
  obtain ⟨h3, _⟩ := hy.int hs
  have hm : m = ((m.toNat : Nat) : Int) := by omega
  rw [hm] at h3
  rw [hsz] at hsl
  refine OpX.frz fun a w ha hmm => (appendXZ hT h1 hz1 hone hU h2 hsl h3 hb hn a w ha hmm).mono ?_
  rintro v' w' ⟨J, X, q1, q2, q3, q4, q5, rfl, hq⟩
  have hrz : ∀ J', repL J' (List.replicate m.toNat (default : α)) (List.replicate m.toNat zv) := fun J' => by
    have := repL_replicate (hz J') m.toNat
    have e : ∀ n, (List.replicate n [zv]).flatten = List.replicate n zv := fun n => by
      induction n with
      | zero => rfl
      | succ n ih => rw [List.replicate_succ, List.flatten_cons, ih, List.replicate_succ]; rfl
    rwa [e] at this
  refine ⟨J, X, q1, q2, q3, q4, q5, fun J' hle hp => ⟨rfl, .v (l ++ List.replicate m.toNat default), ?_, k⟩⟩
  rcases hq with ⟨rfl, hm0, rfl⟩ | ⟨Y, rfl, hown⟩
  · rw [hm0, List.replicate_zero, List.append_nil]
    exact ⟨_, ⟨_, rfl, xs, by rw [hsz]; exact hsl.mono hle, hrl.mono hle⟩, rfl⟩
  · have hown' : (Blk.own E v' (l ++ List.replicate m.toNat (default : α))).brep J Y := ⟨_, by rw [List.length_append, List.length_replicate, hsz]; exact hown, hrl.append (hrz J)⟩
    exact freeze_own hown' hle (fun p hq => hp p (by simp [hq]))
end rules
section forget
variable {P : Program} {C : Ctx} {N : Nat} {σ : AEnv} {H : AHeap}
end forget
def FlatH (r : AV) (Hs : List Blk) : Prop := FlatV r ∧ ∀ I J L, repK I Hs L → repK J Hs L
theorem FlatV.raw {u : Value} : FlatV (.raw u) := fun I J v h => h
theorem FlatH.own {E : TypeId} {α : Type} [Rep α] [RepF α] {u : Value} {l : List α} : FlatH (.raw u) [.own E u l] := ⟨.raw, fun I J L h => by
  obtain ⟨X, R, rfl, ⟨xs, h1, h2⟩, h3⟩ := h
  exact ⟨X, R, rfl, ⟨xs, h1, h2.any⟩, h3⟩⟩
section calls
variable {P : Program} {C : Ctx} {N : Nat} {σ : AEnv} {H : AHeap} {G : Gl} (hG : G.p C.I0) {f : FuncId} {d : Option Nat} {args : Array Operand} {tys : Array TypeId} {ty : TypeId} {ps : String} {af : Array Edge} {g : Option (Nat × Bool)} {ags : List AV}
include hG
theorem OpH.lend0 {post : AV → List Blk → Prop} {K : AV → AHeap → Prop} (h : FunH G P f ags [] post) (hv : EvLs C σ H args.toList ags) (hf : ∀ r Hs, post r Hs → FlatH r Hs) (k : ∀ r Hs, post r Hs → K r (Hs.map (fun B => (true, B)) ++ H)) :
    OpH P C N ⟨d, .call ⟨.value (.func f), args, tys⟩, ty, ps, af, g⟩ σ H K := fun ρ I L hs => by
  obtain ⟨vs, h1, h2⟩ := hv.get hs
  intro a w ha hst
  have hm := hst.mem
  have hcs : ∀ p ∈ L.flatten, I p.1 = none := hm.sep
  have hle0 : Le I (I.with L.flatten) := Im.with_le hcs
  have hM := h (I.with L.flatten) [] vs (G.mono (hs.im0.trans hle0) hG) (h2 _ hle0 (fun p hp => Im.with_mem hm.nodup hp)) rfl
  have hm2 : Mem (I.with L.flatten) [] w := ⟨fun b o hb => by
    rcases Im.with_some hb with h | h
    · exact hm.loc (b, o) h
    · exact hm.im b o h, by simp, by simp, by simp⟩
  rw [run_callOp hM.ok rfl (ha.ev (x := .func f) rfl) (ha.evL h1)]
  refine (hM.run w hm2).mono ?_
  rintro e w' ⟨v, J, L', rfl, hc, hle, hn, hm', hown, r, Hs', q1, q2, q3⟩
  obtain ⟨f1, f2⟩ := hf r Hs' q3
  have hlt : ∀ p ∈ L.flatten, p.1 < w.heap.size := fun p hp => lt_of_get (hm.loc p hp)
  have hnew : ∀ p ∈ L'.flatten, w.heap.size ≤ p.1 := fun p hp => by simpa using hown p hp
  have hmem : Mem I (L' ++ L) w' := by
    refine ⟨fun b o hb => (hc.block b (lt_of_get (hm.im b o hb)) (by simp)).trans (hm.im b o hb), fun p hp => ?_, fun p hp => ?_, ?_⟩
    · simp only [List.flatten_append, List.mem_append] at hp
      rcases hp with hp | hp
      · exact hm'.loc p hp
      · exact (hc.block p.1 (hlt p hp) (by simp)).trans (hm.loc p hp)
    · simp only [List.flatten_append, List.mem_append] at hp
      rcases hp with hp | hp
      · cases hj : I p.1 with
        | none => rfl
        | some o => have := lt_of_get (hm.im p.1 o hj); have := hnew p hp; omega
      · exact hm.sep p hp
    · simp only [List.flatten_append, List.map_append]
      refine List.nodup_append.2 ⟨hm'.nodup, hm.nodup, ?_⟩
      rintro x hx y hy rfl
      obtain ⟨p, hp, rfl⟩ := List.mem_map.1 hx
      obtain ⟨q, hq, hqe⟩ := List.mem_map.1 hy
      have := hnew p hp
      have := hlt q hq
      omega
  refine ⟨v, rfl, I, L' ++ L, hst.step (by simpa using hc) (Le.refl I) (fun b h0 h1 => absurd h0 h1) hmem hnew, Le.refl I, r, _, f1 _ _ _ q1, ?_, k r Hs' q3⟩
  exact ((f2 J I L' q2).toT (fun p hp => Nat.le_trans hst.chg.size (hnew p hp))).append hs.heap
end calls
end Go.Ab
set_option maxRecDepth 1000000
set_option linter.unusedVariables false
set_option linter.unusedSimpArgs false
namespace Go.Proofs.YtkjpkdpnlioffaaDoor
open Go.Fl Go.Ab Go.Mac Go.Sha
theorem Word_c (s : Str) (b : List UInt8) (hs : s.l.length ≤ 1000) (hb : b.length ≤ 1000000) : FunA gl Tryd.prog 39 [.v s, .v b] (fun r => r = .v (s.l ++ b)) := by
  refine FunA.intro Tryd.func39 rfl (by kernel_rfl) 9 rfl rfl _ rfl fun C hC hG => ?_
  refine .seq ?_
  refine .region rfl ?_
  refine .p (.assign (.nilS (α := UInt8)) ?_)
  refine .nil ?_
  refine .seq ?_
  refine .region rfl ?_
  refine .p (.move (.t rfl) (.h (.strBytes Tryd.underlying9 Tryd.underlying25 Tryd.underlying5 (.t rfl) fun w6 => .p (.move (.t rfl) (.h (.append st25 (.inl ⟨_, Tryd.underlying25⟩) rfl .z (.v (.t rfl)) (by first | omega | (simp; done) | (simp; omega) | (simp at *; omega)) (by first | omega | (simp; done) | (simp; omega) | (simp at *; omega)) (fun w8 => .p (.assign (.t rfl) ?_)) rfl))))))
  refine .nil ?_
  refine .frzOwn hC .z ?_
  refine .as 4 rfl .z ?_
  refine .ret ?_
  refine ⟨_, .r1 rfl (.tmp rfl), ?_⟩
  rfl
theorem sh_ofInt (j : Nat) (h : j < 8) : UInt64.ofInt (56 - 8 * (j : Int)) = UInt64.ofNat (56 - 8 * j) := by
  apply UInt64.toNat_inj.1
  have := be64_sh j h
  rw [UInt64.toNat_ofNat']
  omega
theorem eightOwn_c (n : UInt64) : FunH gl Tryd.prog 36 [.v n] [] (fun r Hs => ∃ u, r = .raw u ∧ Hs = [.own 5 u (be64 n 8)]) := by
  refine FunH.introD Tryd.func36 rfl (by kernel_rfl) 18 rfl rfl _ rfl _ rfl fun C hC hG => ?_
  refine .seq ?_
  refine .region rfl ?_
  refine .p (.assign .raw ?_)
  refine .nil ?_
  refine .seq ?_
  refine .region rfl ?_
  refine .p (.assign .raw ?_)
  refine .nil ?_
  refine .seq ?_
  refine .seq ?_
  refine .nilOwn 5 UInt8 ?_
  refine .region rfl ?_
  refine .p (.assign (.i rfl) ?_)
  refine .nil ?_
  refine .block ?_
  refine .loopR (α := Nat × Value) [(0, _)] (fun x R => (3, .raw x.2) :: (4, .v (56 - 8 * (x.1 : Int))) :: R) (fun x => [(true, .own 5 x.2 (be64 n x.1))]) (fun x => x.1 ≤ 8) (fun x => 8 - x.1) ((0, .slice none 0 0)) (.cons rfl (.nil _)) ?_ (.cons rfl (.cons rfl (.cons rfl (.nil _)))) (rfl) fun x hF => ?_
  · simp
  obtain ⟨j, w⟩ := x
  dsimp only at hF ⊢
  refine .seq ?_
  refine .seq ?_
  refine .region rfl ?_
  refine .p (.move (.t rfl) (.p (.geq (.t rfl) (.i rfl) ?_)))
  refine .nil ?_
  refine .condP (.t rfl) (fun hc6 => ?_) (fun hc6 => ?_)
  · refine .skip ?_
    refine .seq ?_
    refine .block ?_
    have hbe := be64_length n j
    have hs5 := be64_sh j (by omega)
    refine .region rfl ?_
    refine .p (.move (.t rfl) (.p (.move (.t rfl) (.p (.move (.t rfl) (.p (.conv64 Tryd.underlying3 Tryd.underlying105 (.t rfl) (.p (.shr64 (.t rfl) (.t rfl) (by first | omega | (simp; done) | (simp; omega) | (simp at *; omega)) (by first | omega | (simp; done) | (simp; omega) | (simp at *; omega)) (.p (.conv64_8 Tryd.underlying81 Tryd.underlying5 (.t rfl) ?_)))))))))))
    refine .h (.buildSlice (α := UInt8) ty5 Tryd.underlying25 (.cons (.t rfl) .nil) rfl (by decide) fun b15 => .h (.append st25 (.inl ⟨_, Tryd.underlying25⟩) rfl (.s .z) (.own rfl .z) (by first | omega | (simp; done) | (simp; omega) | (simp at *; omega)) (by first | omega | (simp; done) | (simp; omega) | (simp at *; omega)) (fun w16 => .p (.assign (.t rfl) ?_)) rfl))
    refine .drop ?_
    refine .nil ?_
    refine .region rfl ?_
    refine .p (.move (.t rfl) (.p (.sub (.t rfl) (.i rfl) (by first | omega | (simp; done) | (simp; omega) | (simp at *; omega)) (by first | omega | (simp; done) | (simp; omega) | (simp at *; omega)) (.p (.assign (.t rfl) ?_)))))
    refine .nil ?_
    refine ⟨(j + 1, w16), .cons rfl (.cons (congrArg (fun q => some (AV.v q)) (by dsimp only; omega)) (.cons rfl (.nil _))), congrArg (fun q => [(true, Blk.own _ _ q)]) (by dsimp only; rw [be64_succ, ← sh_ofInt j (by omega)]), ?_, by dsimp only; omega⟩
    dsimp only; omega
  · refine .exit ?_
    refine .seq ?_
    refine .region rfl ?_
    refine .p (.move (.t rfl) (.p (.assign (.t rfl) ?_)))
    refine .nil ?_
    refine .ret ?_
    refine ⟨_, .r1 rfl (.tmp rfl), ?_⟩
    obtain rfl : j = 8 := by omega
    exact ⟨0, _, rfl, rfl⟩
def streamStr : Str := ⟨[115, 116, 114, 101, 97, 109]⟩
def keyBlock (key : Tag) (nonce : UInt64) (q : Nat) : Tag := hmac key.l (streamStr.l ++ (be64 nonce 8 ++ be64 (UInt64.ofNat q) 8))
def streamByte (key : Tag) (nonce : UInt64) (i : Nat) : UInt8 := (keyBlock key nonce (i / 32)).l.getD (i % 32) 0
def streamL (key : Tag) (nonce : UInt64) (b : List UInt8) (k : Nat) : List UInt8 := (b.take k).mapIdx (fun i c => c ^^^ streamByte key nonce i) ++ b.drop k
theorem streamL_length (key : Tag) (nonce : UInt64) (b : List UInt8) (k : Nat) : (streamL key nonce b k).length = b.length := by simp [streamL]; omega
theorem streamL_all (key : Tag) (nonce : UInt64) (b : List UInt8) : streamL key nonce b b.length = b.mapIdx (fun i c => c ^^^ streamByte key nonce i) := by simp [streamL]
theorem streamL_get (key : Tag) (nonce : UInt64) (b : List UInt8) (k : Nat) (hk : k < b.length) (h : k < (streamL key nonce b k).length) : (streamL key nonce b k)[k] = b[k] := by
  simp only [streamL]
  rw [List.getElem_append_right (by simp; omega)]
  simp
  congr 1; omega
theorem streamL_succ (key : Tag) (nonce : UInt64) (b : List UInt8) (k : Nat) (hk : k < b.length) : (streamL key nonce b k).set k (b[k] ^^^ streamByte key nonce k) = streamL key nonce b (k + 1) := by
  apply List.ext_getElem (by simp [streamL_length])
  intro j h1 h2
  rw [List.getElem_set]
  simp only [streamL]
  by_cases e : k = j
  · subst e
    rw [if_pos rfl, List.getElem_append_left (by simp; omega)]
    simp
  · rw [if_neg e]
    rcases Nat.lt_or_ge j k with h | h
    · rw [List.getElem_append_left (by simp; omega), List.getElem_append_left (by simp; omega)]
      simp
    · rw [List.getElem_append_right (by simp; omega), List.getElem_append_right (by simp; omega)]
      simp
      congr 1; omega
theorem stream_step (key : Tag) (nonce : UInt64) (b : List UInt8) (k : Nat) (hk : k < b.length) (h1 : (k : Int).toNat < (streamL key nonce b k).length) (h2 : ((k : Int) % 32).toNat < 32) :
    (streamL key nonce b k).set (k : Int).toNat ((streamL key nonce b k)[(k : Int).toNat] ^^^ (Lens.idx ((k : Int) % 32).toNat h2).get (hmac key.l (streamStr.l ++ (be64 nonce 8 ++ be64 (UInt64.ofInt ((k : Int) / 32)) 8)))) = streamL key nonce b (k + 1) := by
  rw [← streamL_succ key nonce b k hk]
  have e1 : (streamL key nonce b k)[(k : Int).toNat] = b[k] := streamL_get key nonce b k hk h1
  have e2 : UInt64.ofInt ((k : Int) / 32) = UInt64.ofNat (k / 32) := by
    apply UInt64.toNat_inj.1
    rw [show (k : Int) / 32 = ((k / 32 : Nat) : Int) by omega]
    simp [UInt64.ofInt]; omega
  have e3 : (Lens.idx ((k : Int) % 32).toNat h2).get (hmac key.l (streamStr.l ++ (be64 nonce 8 ++ be64 (UInt64.ofInt ((k : Int) / 32)) 8))) = streamByte key nonce k := by
    rw [e2]
    show (keyBlock key nonce (k / 32)).l[((k : Int) % 32).toNat]'_ = _
    unfold streamByte
    have h3 : ((k : Int) % 32).toNat = k % 32 := by omega
    have h4 : k % 32 < (keyBlock key nonce (k / 32)).l.length := by rw [Arr.len]; omega
    simp only [h3]
    rw [List.getD_eq_getElem?_getD, List.getElem?_eq_getElem h4]; rfl
  rw [e1, e3]; rfl
theorem rStream_c (key : Tag) (nonce : UInt64) (b : List UInt8) (hb : b.length ≤ 1000000) : FunA gl Tryd.prog 37 [.v key, .v nonce, .v b] (fun r => r = .v (streamL key nonce b b.length)) := by
  refine FunA.intro Tryd.func37 rfl (by kernel_rfl) 42 rfl rfl _ rfl fun C hC hG => ?_
  refine .seq ?_
  refine .region rfl ?_
  refine .h (.box (.t rfl) fun b3 => .p (.assign (.nilS (α := UInt8)) ?_))
  refine .nil ?_
  refine .seq ?_
  refine .frzOb hC .z ?_
  refine .asP 3 rfl .z ?_
  refine .region rfl ?_
  refine .h (.buildSlice (α := UInt8) ty5 Tryd.underlying25 .nil rfl (by decide) fun b10 => .p (.move (.t rfl) (.h (.append st25 (.inl ⟨_, Tryd.underlying25⟩) rfl .z (.v (.t rfl)) (by first | omega | (simp; done) | (simp; omega) | (simp at *; omega)) (by first | omega | (simp; done) | (simp; omega) | (simp at *; omega)) (fun w12 => .p (.assign (.t rfl) ?_)) rfl))))
  refine .nil ?_
  refine .seq ?_
  refine .seq ?_
  refine .region rfl ?_
  refine .p (.assign (.i rfl) ?_)
  refine .nil ?_
  refine .block ?_
  refine .loopR (α := Nat) [(1, _), (3, _), (7, _)] (fun k R => (8, .v (k : Int)) :: R) (fun k => [(true, .own 5 w12 (streamL key nonce b k)), (true, .fz (ptr b3 0) (.p key))]) (fun k => k ≤ b.length) (fun k => b.length - k) (0) (.cons rfl (.cons rfl (.cons rfl (.nil _)))) ?_ (.cons rfl (.cons rfl (.cons rfl (.cons rfl (.nil _))))) (rfl) fun k hF => ?_
  · simp
  have hl0 := streamL_length key nonce b k
  refine .seq ?_
  refine .seq ?_
  refine .region rfl ?_
  refine .p (.move (.t rfl) (.p (.move (.t rfl) (.p (.lenOwn Tryd.underlying25 rfl .z (.p (.lss (.t rfl) (.t rfl) ?_)))))))
  refine .nil ?_
  refine .condP (.t rfl) (fun hc16 => ?_) (fun hc16 => ?_)
  · refine .skip ?_
    refine .seq ?_
    refine .block ?_
    refine .seq ?_
    have hb1 := be64_length nonce 8
    have hb2 := be64_length (UInt64.ofInt ((k : Int) / 32)) 8
    have hl5 := streamL_length key nonce b k
    refine .drawZ [[false, false], [false, false], [false, false], [false, false]] [[false, false], [false, false], [], [false, false], [false, false], [false, false], [false, false], [], [], [false, false], []] [[], [], [], [9]] [(10, (⟨(Arr 32 UInt8), inferInstance, default⟩ : AT))] 3 (by kernel_rfl) 11 [[], [], [(20, 1)], [], [(22, 3)], [(23, 4)], [(24, 5)], [(21, 2), (25, 6)], [(26, 7)], [(19, 0), (27, 8)], []] [2, 7, 8] rfl (by kernel_rfl) rfl (by kernel_rfl) rfl (by decide) (by simp) (List.forall_mem_cons.2 ⟨fun o ho => by obtain rfl := Option.some.inj (show some _ = some o from ho); exact ⟨rfl, fun _ _ => OpH.alloc ty24 fun b => ⟨b, rfl, rfl⟩⟩, (fun p hp => by cases hp)⟩) (by kernel_rfl) rfl ?_
    refine ⟨_, fun H => OpP.slArrP (by decide) ar24 (.t rfl) rfl, ?_⟩
    refine ⟨_, fun H => OpP.move (.t rfl) rfl, ?_⟩
    refine .inl ?_
    refine ⟨_, fun H => OpP.move (.t rfl) rfl, ?_⟩
    refine ⟨_, fun H => OpP.quo (.t rfl) (.i rfl) (by first | omega | (simp; done) | (simp; omega) | (simp at *; omega)) (by first | omega | (simp; done) | (simp; omega) | (simp at *; omega)) rfl, ?_⟩
    refine ⟨_, fun H => OpP.conv64 Tryd.underlying3 Tryd.underlying81 (.t rfl) rfl, ?_⟩
    refine ⟨_, fun H => OpP.call1 hG (Eight_c _) (.cons (.t rfl) .nil) rfl, ?_⟩
    refine .inl ?_
    refine .inl ?_
    refine .inl ?_
    refine .inl ?_
    refine ⟨rfl, ?_⟩
    refine ⟨⟨fun k => List.getD [(true, .none_), (true, .none_)] k (true, .none_), rfl⟩, fun Ys5 => ?_⟩
    refine OpH.call0 hG (eightOwn_c _) (.cons (.t rfl) .nil) fun r21 Hs21 hr21 => ?_
    obtain ⟨u21, rfl, rfl⟩ := hr21
    refine ⟨[_], _, rfl, ?_⟩
    refine ⟨⟨fun k => List.getD [(true, .none_), (true, .none_)] k (true, .none_), rfl⟩, fun Ys5 => ?_⟩
    refine OpH.append st25 (.inl ⟨_, Tryd.underlying25⟩) rfl .z (.v (.t rfl)) (by first | omega | (simp; done) | (simp; omega) | (simp at *; omega)) (by first | omega | (simp; done) | (simp; omega) | (simp at *; omega)) (fun w26 => ?_) rfl
    refine ⟨[_], _, rfl, ?_⟩
    refine ⟨⟨fun k => List.getD [(true, .none_), (true, .none_)] k (true, .none_), rfl⟩, fun Ys5 => ?_⟩
    refine OpH.frzOwn hC .z (OpH.as 26 rfl .z (OpH.ofP (OpP.call1 hG (Word_c _ _ (by first | omega | (simp; done) | (simp; omega) | (simp at *; omega)) (by first | omega | (simp; done) | (simp; omega) | (simp at *; omega))) (.cons (.s [115, 116, 114, 101, 97, 109] (by decide) (by decide)) (.cons (.t rfl) .nil)) ?_)))
    refine ⟨[_], _, rfl, ?_⟩
    refine ⟨_, fun H => OpP.call1 hG (rHmac_c _ _ (by first | omega | (simp; done) | (simp; omega) | (simp at *; omega)) (by first | omega | (simp; done) | (simp; omega) | (simp at *; omega))) (.cons (.t rfl) (.cons (.t rfl) .nil)) rfl, ?_⟩
    refine ⟨⟨fun k => List.getD [(true, .none_), (true, .none_)] k (true, .none_), rfl⟩, fun ws5 => ?_⟩
    refine ⟨⟨fun k => List.getD [(true, .none_), (true, .none_)] k (true, .none_), rfl⟩, fun _ => ?_⟩
    show wpB _ _ _ _ _ _ ((9, _) :: (28, _) :: (27, _) :: (26, _) :: (25, _) :: (24, _) :: (23, _) :: (22, _) :: (21, _) :: (20, _) :: (19, _) :: _) _
    refine .n (.stW ty24 (.t rfl) (.t rfl) (.s .z) ?_)
    refine .nil ?_
    have hl6 := streamL_length key nonce b k
    refine .draw (by kernel_rfl) 12 [[], [], [], [], [(31, 2), (32, 3)], [(33, 4)], [], [(35, 6)], [(36, 7)], [(37, 8)], [(34, 5), (38, 9)], [(29, 0), (30, 1)]] rfl (by kernel_rfl) rfl ?_
    refine ⟨_, OpP.move (.t rfl) rfl, ?_⟩
    refine ⟨_, OpP.move (.t rfl) rfl, ?_⟩
    refine ⟨_, OpP.move (.t rfl) rfl, ?_⟩
    refine ⟨_, OpP.move (.t rfl) rfl, ?_⟩
    refine ⟨_, OpP.idxOwn ty5 Tryd.underlying25 rfl (.s (.s .z)) (.t rfl) (by first | omega | (simp; done) | (simp; omega) | (simp at *; omega)) (by first | omega | (simp; done) | (simp; omega) | (simp at *; omega)) rfl, ?_⟩
    refine ⟨_, OpP.ldEW ty5 (.t rfl) (.s (.s .z)) (by first | omega | (simp; done) | (simp; omega) | (simp at *; omega)) rfl, ?_⟩
    refine ⟨_, OpP.move (.t rfl) rfl, ?_⟩
    refine ⟨_, OpP.rem (.t rfl) (.i rfl) (by first | omega | (simp; done) | (simp; omega) | (simp at *; omega)) (by first | omega | (simp; done) | (simp; omega) | (simp at *; omega)) rfl, ?_⟩
    refine ⟨_, OpP.idxW ar24 (.t rfl) (.t rfl) (by first | omega | (simp; done) | (simp; omega) | (simp at *; omega)) (by first | omega | (simp; done) | (simp; omega) | (simp at *; omega)) rfl, ?_⟩
    refine ⟨_, OpP.ldL ty5 (.t rfl) (.s .z) rfl, ?_⟩
    refine ⟨_, OpP.xor8 (.t rfl) (.t rfl) rfl, ?_⟩
    refine ⟨_, OpP.idxOwn ty5 Tryd.underlying25 rfl (.s (.s .z)) (.t rfl) (by first | omega | (simp; done) | (simp; omega) | (simp at *; omega)) (by first | omega | (simp; done) | (simp; omega) | (simp at *; omega)) rfl, ?_⟩
    show wpB _ _ _ _ _ _ ((40, _) :: (39, _) :: (38, _) :: (37, _) :: (36, _) :: (35, _) :: (34, _) :: (33, _) :: (32, _) :: (31, _) :: (30, _) :: (29, _) :: _) _
    refine .n (.stEW ty5 (.t rfl) (.t rfl) (.s (.s .z)) (by first | omega | (simp; done) | (simp; omega) | (simp at *; omega)) ?_)
    refine .drop ?_
    refine .drop ?_
    refine .nil ?_
    refine .region rfl ?_
    refine .p (.move (.t rfl) (.p (.add (.t rfl) (.i rfl) (by first | omega | (simp; done) | (simp; omega) | (simp at *; omega)) (by first | omega | (simp; done) | (simp; omega) | (simp at *; omega)) (.p (.assign (.t rfl) ?_)))))
    refine .nil ?_
    refine ⟨k + 1, .cons rfl (.cons rfl (.cons rfl (.cons rfl (.nil _)))), congrArg (fun q => [(true, Blk.own _ _ q), _]) (stream_step key nonce b k (by omega) _ _), ?_, by omega⟩
    omega
  · refine .exit ?_
    refine .seq ?_
    refine .region rfl ?_
    refine .p (.move (.t rfl) (.p (.assign (.t rfl) ?_)))
    refine .nil ?_
    refine .frzOwn hC .z ?_
    refine .as 6 rfl .z ?_
    refine .ret ?_
    refine ⟨_, .r1 rfl (.tmp rfl), ?_⟩
    obtain rfl : k = b.length := by omega
    rfl
theorem wordOwn_c (s : Str) (b : List UInt8) (hs : s.l.length ≤ 1000) (hb : b.length ≤ 1000000) : FunH gl Tryd.prog 39 [.v s, .v b] [] (fun r Hs => ∃ u, r = .raw u ∧ Hs = [.own 5 u (s.l ++ b)]) := by
  refine FunH.introS Tryd.func39 rfl (by kernel_rfl) 9 rfl rfl _ rfl _ rfl fun C hC hG => ?_
  refine .seq ?_
  refine .region rfl ?_
  refine .p (.assign (.nilS (α := UInt8)) ?_)
  refine .nil ?_
  refine .seq ?_
  refine .region rfl ?_
  refine .p (.move (.t rfl) (.h (.strBytes Tryd.underlying9 Tryd.underlying25 Tryd.underlying5 (.t rfl) fun w6 => .p (.move (.t rfl) (.h (.append st25 (.inl ⟨_, Tryd.underlying25⟩) rfl .z (.v (.t rfl)) (by first | omega | (simp; done) | (simp; omega) | (simp at *; omega)) (by first | omega | (simp; done) | (simp; omega) | (simp at *; omega)) (fun w8 => .p (.assign (.t rfl) ?_)) rfl))))))
  refine .nil ?_
  refine .ret ?_
  refine ⟨_, .r1 rfl (.tmp rfl), ?_⟩
  refine ⟨_, .cons .z (.nil), ?_⟩
  exact ⟨w8, rfl, rfl⟩
def boxStr : Str := ⟨[98, 111, 120]⟩
def sealEq (k : Tag) (n : Int) (p : List UInt8) (x : G_api_Sealed) : Bool := decide (x.Key = k) && decide (x.Nonce = n) && decide (x.Plain = p)
def sealHead (k : Tag) (n : Int) (p : List UInt8) : List UInt8 := be64 (UInt64.ofInt n) 8 ++ streamL k (UInt64.ofInt n) p p.length
def realBox (k : Tag) (n : Int) (p : List UInt8) : List UInt8 := sealHead k n p ++ (hmac k.l (boxStr.l ++ sealHead k n p)).l
def newBox (a : Alg) (k : Tag) (n : Int) (p : List UInt8) : List UInt8 := if a.Free then (symTag 98 (a.Boxes.length + 1)).l ++ List.replicate (p.length + 8) 0 else realBox k n p
def algSeal (a : Alg) (k : Tag) (n : Int) (p : List UInt8) : Alg × List UInt8 × Int :=
  if n < 0 ∨ 281474976710656 < n then (default, [], 1) else if 256 < p.length then (default, [], 2) else
  match a.Boxes.find? (sealEq k n p) with
  | some x => (a, x.Box, 0)
  | none => if 65536 ≤ a.Boxes.length then (default, [], 2) else
    (⟨a.Free, a.Seed, a.Fresh, a.Macs, a.Boxes ++ [⟨k, n, p, newBox a k n p⟩]⟩, newBox a k n p, 0)
theorem algSeal_range {a : Alg} {k : Tag} {n : Int} {p : List UInt8} (h : (decide (n < 0) || decide (281474976710656 < n)) = true) : algSeal a k n p = (default, [], 1) := by
  unfold algSeal; rw [if_pos (by simpa using h)]
theorem algSeal_long {a : Alg} {k : Tag} {n : Int} {p : List UInt8} (h : (decide (n < 0) || decide (281474976710656 < n)) = false) (h2 : 256 < p.length) : algSeal a k n p = (default, [], 2) := by
  unfold algSeal; rw [if_neg (by simp at h ⊢; omega), if_pos h2]
theorem algSeal_found {a : Alg} {k : Tag} {n : Int} {p : List UInt8} {x : G_api_Sealed} (h : (decide (n < 0) || decide (281474976710656 < n)) = false) (h2 : ¬ 256 < p.length) (h3 : a.Boxes.find? (sealEq k n p) = some x) : algSeal a k n p = (a, x.Box, 0) := by
  unfold algSeal; rw [if_neg (by simp at h ⊢; omega), if_neg h2, h3]
theorem algSeal_full {a : Alg} {k : Tag} {n : Int} {p : List UInt8} (h : (decide (n < 0) || decide (281474976710656 < n)) = false) (h2 : ¬ 256 < p.length) (h3 : a.Boxes.find? (sealEq k n p) = none) (h4 : 65536 ≤ a.Boxes.length) : algSeal a k n p = (default, [], 2) := by
  unfold algSeal; rw [if_neg (by simp at h ⊢; omega), if_neg h2, h3]; simp only []; rw [if_pos h4]
theorem algSeal_new {a : Alg} {k : Tag} {n : Int} {p : List UInt8} (h : (decide (n < 0) || decide (281474976710656 < n)) = false) (h2 : ¬ 256 < p.length) (h3 : a.Boxes.find? (sealEq k n p) = none) (h4 : ¬ 65536 ≤ a.Boxes.length) :
    algSeal a k n p = (⟨a.Free, a.Seed, a.Fresh, a.Macs, a.Boxes ++ [⟨k, n, p, newBox a k n p⟩]⟩, newBox a k n p, 0) := by
  unfold algSeal; rw [if_neg (by simp at h ⊢; omega), if_neg h2, h3]; simp only []; rw [if_neg h4]
theorem newBox_free {a : Alg} {k : Tag} {n : Int} {p : List UInt8} (h : a.Free = true) : newBox a k n p = (symTag 98 (a.Boxes.length + 1)).l ++ List.replicate (p.length + 8) 0 := by unfold newBox; rw [if_pos h]
theorem newBox_real {a : Alg} {k : Tag} {n : Int} {p : List UInt8} (h : a.Free = false) : newBox a k n p = realBox k n p := by unfold newBox; rw [if_neg (by rw [h]; decide)]
theorem findS_some {l : List G_api_Sealed} {p : G_api_Sealed → Bool} {k : Nat} (h : k < l.length) (h1 : p l[k] = true) (h2 : ∀ j (hj : j < l.length), j < k → p l[j] = false) : l.find? p = some l[k] :=
  List.find?_eq_some_iff_getElem.2 ⟨h1, k, h, rfl, fun j hj => by rw [h2 j (by omega) hj]; rfl⟩
theorem findS_none {l : List G_api_Sealed} {p : G_api_Sealed → Bool} (h : ∀ j (hj : j < l.length), p l[j] = false) : l.find? p = none :=
  List.find?_eq_none.2 fun x hx => by
    obtain ⟨j, hj, rfl⟩ := List.getElem_of_mem hx
    rw [h j hj]; decide
theorem rSeal_c (a : Alg) (k : Tag) (n : Int) (p : List UInt8) (hb : ∀ x ∈ a.Boxes, x.Box.length ≤ 1000000) : FunA gl Tryd.prog 15 [.v a, .v k, .v n, .v p] (fun r => r = .t3 (.v (algSeal a k n p).1) (.v (algSeal a k n p).2.1) (.v (algSeal a k n p).2.2)) := by
  refine FunA.intro Tryd.func15 rfl (by kernel_rfl) 111 rfl rfl _ rfl fun C hC hG => ?_
  refine .seq ?_
  refine .region rfl ?_
  refine .h (.box (.t rfl) fun b4 => .h (.box (.t rfl) fun b5 => .h (.alloc ty33 fun b8 => .p (.assign (.nilS (α := UInt8)) (.p (.assign (.i rfl) ?_))))))
  refine .nil ?_
  refine .seq ?_
  refine .seq ?_
  refine .frzOb hC (.s .z) ?_
  refine .asP 5 rfl (.s .z) ?_
  refine .region rfl ?_
  refine .p (.move (.t rfl) (.p (.lss (.t rfl) (.i rfl) (.p (.move (.t rfl) ?_)))))
  refine .go 18 rfl (.t rfl) (fun hg19 => .move (.t rfl) rfl) ?_
  refine .go 18 rfl (.t rfl) (fun hg20 => .gtr (.o rfl (beq_iff_eq.2 hg20)) (.i rfl) rfl) ?_
  refine .p (.pickOr (.t rfl) (fun hp => (.o rfl (beq_iff_eq.2 hp))) ?_)
  refine .nil ?_
  refine .cond (.t rfl) (fun hc21 => ?_) (fun hc21 => ?_)
  · refine .seq ?_
    refine .region rfl ?_
    refine .p (.bS0 (α := G_api_Algebra) rfl ty33 fo33 (.n (.stW ty33 (.t rfl) (.t rfl) .z (.p (.assign (.nilS (α := UInt8)) (.p (.assign (.i rfl) ?_)))))))
    refine .nil ?_
    refine .ret ?_
    refine ⟨_, .r3 rfl (.cell ty33 rfl .z) (.tmp rfl) (.tmp rfl), ?_⟩
    rw [algSeal_range hc21]
  · refine .skip ?_
    refine .seq ?_
    refine .seq ?_
    refine .region rfl ?_
    refine .p (.move (.t rfl) (.p (.len Tryd.underlying25 (.t rfl) (.p (.gtr (.t rfl) (.i rfl) ?_)))))
    refine .nil ?_
    refine .condP (.t rfl) (fun hc25 => ?_) (fun hc25 => ?_)
    · refine .seq ?_
      refine .region rfl ?_
      refine .p (.bS0 (α := G_api_Algebra) rfl ty33 fo33 (.n (.stW ty33 (.t rfl) (.t rfl) .z (.p (.assign (.nilS (α := UInt8)) (.p (.assign (.i rfl) ?_)))))))
      refine .nil ?_
      refine .ret ?_
      refine ⟨_, .r3 rfl (.cell ty33 rfl .z) (.tmp rfl) (.tmp rfl), ?_⟩
      rw [algSeal_long hc21 (by omega)]
    · refine .skip ?_
      refine .seq ?_
      refine .seq ?_
      refine .region rfl ?_
      refine .p (.assign (.i rfl) ?_)
      refine .nil ?_
      refine .block ?_
      refine .loopR (α := Nat) [(2, _), (3, _), (4, _), (5, _), (8, _)] (fun i R => (11, .v (i : Int)) :: R) (fun i => [(true, .ob (ptr b8 0) (default : Alg)), (true, .fz (ptr b5 0) (.p k)), (true, .ob (ptr b4 0) a)]) (fun i => i ≤ a.Boxes.length ∧ ∀ j (hj : j < a.Boxes.length), j < i → sealEq k n p a.Boxes[j] = false) (fun i => a.Boxes.length - i) (0) (.cons rfl (.cons rfl (.cons rfl (.cons rfl (.cons rfl (.nil _)))))) ?_ (.cons rfl (.cons rfl (.cons rfl (.cons rfl (.cons rfl (.cons rfl (.nil _))))))) (rfl) fun i hF => ?_
      · simp
      obtain ⟨h1, h2⟩ := hF
      refine .seq ?_
      refine .seq ?_
      refine .region rfl ?_
      refine .p (.move (.t rfl) (.p (.fldW G_api_Algebra.l4 fd33_4 rfl (.t rfl) (.p (.ldF (fun x => x.Boxes) ty31 (.t rfl) (.s (.s .z)) (fun _ => rfl) (.p (.len Tryd.underlying31 (.t rfl) (.p (.lss (.t rfl) (.t rfl) ?_)))))))))
      refine .nil ?_
      refine .condP (.t rfl) (fun hc31 => ?_) (fun hc31 => ?_)
      · refine .skip ?_
        refine .seq ?_
        refine .block ?_
        refine .seq ?_
        refine .lenLe 29 rfl fun hl29 => ?_
        refine .region rfl ?_
        refine .p (.fldW G_api_Algebra.l4 fd33_4 rfl (.t rfl) (.p (.ldF (fun x => x.Boxes) ty31 (.t rfl) (.s (.s .z)) (fun _ => rfl) (.p (.move (.t rfl) (.p (.idx ty64 Tryd.underlying31 (.t rfl) (.t rfl) (by first | omega | (simp; done) | (simp; omega) | (simp at *; omega)) (by first | omega | (simp; done) | (simp; omega) | (simp at *; omega)) (.p (.ldP ty64 (.t rfl) (.h (.alloc ty64 fun b12 => ?_)))))))))))
        refine .n (.stW ty64 (.t rfl) (.t rfl) .z ?_)
        refine .nil ?_
        refine .seq ?_
        refine .region rfl ?_
        refine .p (.fldW G_api_Sealed.l0 fd64_0 rfl (.t rfl) (.p (.ldF (fun x => x.Key) ty24 (.t rfl) .z (fun _ => rfl) (.p (.ldP ty24 (.t rfl) (.p (.eqlA8 Tryd.underlying24 sz5 Tryd.underlying5 gd24 (.t rfl) (.t rfl) (.p (.move (.t rfl) ?_)))))))))
        refine .go 43 rfl (.t rfl) (fun hg44 => .fldW G_api_Sealed.l1 fd64_1 rfl (.t rfl) rfl) ?_
        refine .go 43 rfl (.t rfl) (fun hg45 => .ldF (fun x => x.Nonce) ty3 (.o rfl (beq_iff_eq.2 hg45)) .z (fun _ => rfl) rfl) ?_
        refine .go 43 rfl (.t rfl) (fun hg46 => .move (.t rfl) rfl) ?_
        refine .go 43 rfl (.t rfl) (fun hg47 => .eqlI (.o rfl (beq_iff_eq.2 hg47)) (.o rfl (beq_iff_eq.2 hg47)) rfl) ?_
        refine .p (.pickAnd (.t rfl) (fun hp => (.o rfl (beq_iff_eq.2 hp))) (.p (.move (.t rfl) ?_)))
        refine .go 49 rfl (.t rfl) (fun hg50 => .fldW G_api_Sealed.l2 fd64_2 rfl (.t rfl) rfl) ?_
        refine .go 49 rfl (.t rfl) (fun hg51 => .ldF (fun x => x.Plain) ty25 (.o rfl (beq_iff_eq.2 hg51)) .z (fun _ => rfl) rfl) ?_
        refine .go 49 rfl (.t rfl) (fun hg52 => .move (.t rfl) rfl) ?_
        refine .go 49 rfl (.t rfl) (fun hg53 => .call1 hG (Same_c _ _) (.cons (.o rfl (beq_iff_eq.2 hg53)) (.cons (.o rfl (beq_iff_eq.2 hg53)) .nil)) rfl) ?_
        refine .p (.pickAnd (.t rfl) (fun hp => (.o rfl (beq_iff_eq.2 hp))) ?_)
        refine .nil ?_
        refine .cond (.t rfl) (fun hc54 => ?_) (fun hc54 => ?_)
        · refine .seq ?_
          have hb10 : ∀ h : (i : Int).toNat < a.Boxes.length, (a.Boxes[(i : Int).toNat]'h).Box.length ≤ 1000000 := fun h => hb _ (List.getElem_mem h)
          have hb11 := hb10 (by omega)
          refine .draw (by kernel_rfl) 5 [[], [], [], [(57, 2)], [(56, 1), (58, 3)]] rfl (by kernel_rfl) rfl ?_
          refine ⟨_, OpP.ldW ty33 (.t rfl) (.s (.s (.s .z))) rfl, ?_⟩
          refine ⟨_, OpP.buildSliceF (α := UInt8) ty5 Tryd.underlying25 .nil rfl (by decide) rfl, ?_⟩
          refine ⟨_, OpP.fldW G_api_Sealed.l3 fd64_3 rfl (.t rfl) rfl, ?_⟩
          refine ⟨_, OpP.ldF (fun x => x.Box) ty25 (.t rfl) .z (fun _ => rfl) rfl, ?_⟩
          refine ⟨_, OpP.appendC st25 (.inl ⟨_, Tryd.underlying25⟩) (.t rfl) (.v (.t rfl)) (by first | omega | (simp; done) | (simp; omega) | (simp at *; omega)) (by first | omega | (simp; done) | (simp; omega) | (simp at *; omega)) rfl, ?_⟩
          show wpB _ _ _ _ _ _ ((59, _) :: (58, _) :: (57, _) :: (56, _) :: (55, _) :: _) _
          refine .n (.stW ty33 (.t rfl) (.t rfl) (.s .z) (.p (.assign (.t rfl) (.p (.assign (.i rfl) ?_)))))
          refine .nil ?_
          refine .ret ?_
          refine ⟨_, .r3 rfl (.cell ty33 rfl (.s .z)) (.tmp rfl) (.tmp rfl), ?_⟩
          rw [algSeal_found hc21 (by omega) (findS_some (k := i) (by omega) hc54 h2)]; rfl
        · refine .skip ?_
          refine .drop ?_
          refine .region rfl ?_
          refine .p (.move (.t rfl) (.p (.add (.t rfl) (.i rfl) (by first | omega | (simp; done) | (simp; omega) | (simp at *; omega)) (by first | omega | (simp; done) | (simp; omega) | (simp at *; omega)) (.p (.assign (.t rfl) ?_)))))
          refine .nil ?_
          refine ⟨i + 1, .cons rfl (.cons rfl (.cons rfl (.cons rfl (.cons rfl (.cons rfl (.nil _)))))), rfl, ?_, by omega⟩
          refine ⟨by omega, fun j hj hji => ?_⟩; rcases Nat.lt_or_ge j i with h | h; exact h2 j hj h; (obtain rfl : j = i := by omega); exact hc54
      · refine .exit ?_
        refine .seq ?_
        refine .seq ?_
        refine .region rfl ?_
        refine .p (.fldW G_api_Algebra.l4 fd33_4 rfl (.t rfl) (.p (.ldF (fun x => x.Boxes) ty31 (.t rfl) (.s (.s .z)) (fun _ => rfl) (.p (.len Tryd.underlying31 (.t rfl) (.p (.geq (.t rfl) (.i rfl) ?_)))))))
        refine .nil ?_
        refine .condP (.t rfl) (fun hc63 => ?_) (fun hc63 => ?_)
        · refine .seq ?_
          refine .region rfl ?_
          refine .p (.bS0 (α := G_api_Algebra) rfl ty33 fo33 (.n (.stW ty33 (.t rfl) (.t rfl) .z (.p (.assign (.nilS (α := UInt8)) (.p (.assign (.i rfl) ?_)))))))
          refine .nil ?_
          refine .ret ?_
          refine ⟨_, .r3 rfl (.cell ty33 rfl .z) (.tmp rfl) (.tmp rfl), ?_⟩
          rw [algSeal_full hc21 (by omega) (findS_none fun j hj => h2 j hj (by omega)) (by omega)]
        · refine .skip ?_
          refine .seq ?_
          refine .region rfl ?_
          refine .p (.assign (.nilS (α := UInt8)) ?_)
          refine .nil ?_
          refine .seq ?_
          refine .seq ?_
          refine .region rfl ?_
          refine .p (.fldW G_api_Algebra.l0 fd33_0 rfl (.t rfl) (.p (.ldF (fun x => x.Free) ty4 (.t rfl) (.s (.s .z)) (fun _ => rfl) ?_)))
          refine .nil ?_
          refine .cond (.t rfl) (fun hc66 => ?_) (fun hc66 => ?_)
          · refine .seq ?_
            refine .region rfl ?_
            refine .p (.fldW G_api_Algebra.l4 fd33_4 rfl (.t rfl) (.p (.ldF (fun x => x.Boxes) ty31 (.t rfl) (.s (.s .z)) (fun _ => rfl) (.p (.len Tryd.underlying31 (.t rfl) (.p (.add (.t rfl) (.i rfl) (by first | omega | (simp; done) | (simp; omega) | (simp at *; omega)) (by first | omega | (simp; done) | (simp; omega) | (simp at *; omega)) (.p (.call1 hG (rSymbol_c _ _) (.cons (.u8 98 rfl) (.cons (.t rfl) .nil)) (.h (.alloc ty24 fun b14 => ?_)))))))))))
            refine .n (.stW ty24 (.t rfl) (.t rfl) .z ?_)
            refine .nil ?_
            refine .frzOb hC .z ?_
            refine .asP 14 rfl .z ?_
            refine .region rfl ?_
            refine .p (.slArrPC (by decide) ar24 (.t rfl) (.p (.move (.t rfl) (.p (.len Tryd.underlying25 (.t rfl) (.p (.add (.t rfl) (.i rfl) (by first | omega | (simp; done) | (simp; omega) | (simp at *; omega)) (by first | omega | (simp; done) | (simp; omega) | (simp at *; omega)) (.p (.appendZC Tryd.underlying25 one5 rfl rfl rfl (fun _ => rfl) Tryd.underlying3 (.t rfl) (.t rfl) (by first | omega | (simp; done) | (simp; omega) | (simp at *; omega)) (by first | omega | (simp; done) | (simp; omega) | (simp at *; omega)) (by first | omega | (simp; done) | (simp; omega) | (simp at *; omega)) (.p (.assign (.t rfl) ?_)))))))))))
            refine .nil ?_
            refine .seq ?_
            refine .drawCF [false, false, false, false] (by kernel_rfl) 14 [[], [], [(94, 1)], [(93, 0), (95, 2)], [], [], [], [], [(99, 6), (100, 7)], [], [(97, 4), (98, 5), (101, 8), (102, 9)], [(103, 10)], [(96, 3), (104, 11)], []] [0, 3, 12] rfl (by kernel_rfl) rfl (by kernel_rfl) (by decide) ?_
            refine .inl ?_
            refine ⟨_, fun H => OpP.fldW G_api_Algebra.l4 fd33_4 rfl (.t rfl) rfl, ?_⟩
            refine ⟨_, fun H => OpP.ldF (fun x => x.Boxes) ty31 (.t rfl) (Hole.app (.s (.s (.s .z)))) (fun _ => rfl) rfl, ?_⟩
            refine .inl ?_
            refine ⟨_, fun H => OpP.ldP ty24 (.t rfl) rfl, ?_⟩
            refine ⟨_, fun H => OpP.move (.t rfl) rfl, ?_⟩
            refine ⟨_, fun H => OpP.buildSliceF (α := UInt8) ty5 Tryd.underlying25 .nil rfl (by decide) rfl, ?_⟩
            refine ⟨_, fun H => OpP.move (.t rfl) rfl, ?_⟩
            refine ⟨_, fun H => OpP.appendC st25 (.inl ⟨_, Tryd.underlying25⟩) (.t rfl) (.v (.t rfl)) (by first | omega | (simp; done) | (simp; omega) | (simp at *; omega)) (by first | omega | (simp; done) | (simp; omega) | (simp at *; omega)) rfl, ?_⟩
            refine ⟨_, fun H => OpP.move (.t rfl) rfl, ?_⟩
            refine ⟨_, fun H => OpP.bS4 G_api_Sealed.l0 G_api_Sealed.l1 G_api_Sealed.l2 G_api_Sealed.l3 rfl ty64 fo64 (fun c0 c1 c2 c3 => (⟨c0, c1, c2, c3⟩ : G_api_Sealed)) (fun _ _ _ _ => rfl) rfl rfl rfl rfl rfl (.t rfl) (.t rfl) (.t rfl) (.t rfl) rfl, ?_⟩
            refine ⟨_, fun H => OpP.buildSliceF (α := G_api_Sealed) ty64 Tryd.underlying31 (.cons (.t rfl) .nil) rfl (by decide) rfl, ?_⟩
            refine .inl ?_
            refine ⟨_, fun H => OpP.fldW G_api_Algebra.l4 fd33_4 rfl (.t rfl) rfl, ?_⟩
            refine ⟨⟨([], fun k => List.getD [(true, .none_), (true, .none_), (true, .none_), (true, .none_)] k (true, .none_)), rfl⟩, ?_⟩
            refine OpH.buildSlice (α := G_api_Sealed) ty64 Tryd.underlying31 .nil rfl (by decide) fun b93 => ?_
            refine ⟨⟨([_], fun k => List.getD [(true, .none_), (true, .none_), (true, .none_), (true, .none_)] k (true, .none_)), rfl⟩, ?_⟩
            refine OpH.append st31 (.inl ⟨_, Tryd.underlying31⟩) rfl .z (.v (.t rfl)) (by first | omega | (simp; done) | (simp; omega) | (simp at *; omega)) (by first | omega | (simp; done) | (simp; omega) | (simp at *; omega)) (fun w96 => ?_) rfl
            refine ⟨⟨([_], fun k => List.getD [(true, .none_), (true, .none_), (true, .none_), (true, .none_)] k (true, .none_)), rfl⟩, ?_⟩
            refine OpH.append st31 (.inl ⟨_, Tryd.underlying31⟩) rfl .z (.v (.c rfl)) (by first | omega | (simp; done) | (simp; omega) | (simp at *; omega)) (by first | omega | (simp; done) | (simp; omega) | (simp at *; omega)) (fun w105 => ?_) rfl
            refine ⟨⟨([_], fun k => List.getD [(true, .none_), (true, .none_), (true, .none_), (true, .none_)] k (true, .none_)), rfl⟩, ?_⟩
            show wpB _ _ _ _ _ _ ((106, _) :: (105, _) :: (104, _) :: (103, _) :: (102, _) :: (101, _) :: (100, _) :: (99, _) :: (98, _) :: (97, _) :: (96, _) :: (95, _) :: (94, _) :: (93, _) :: _) _
            refine .frzOwn hC .z ?_
            refine .as 105 rfl .z ?_
            refine .n (.stF (fun y x => { x with Boxes := y }) ty31 (.t rfl) (.t rfl) (.s (.s (.s (.s .z)))) (fun _ _ => rfl) ?_)
            refine .nil ?_
            refine .seq ?_
            refine .draw (by kernel_rfl) 4 [[], [], [], [(108, 1), (109, 2)]] rfl (by kernel_rfl) rfl ?_
            refine ⟨_, OpP.ldW ty33 (.t rfl) (.s (.s (.s (.s .z)))) rfl, ?_⟩
            refine ⟨_, OpP.buildSliceF (α := UInt8) ty5 Tryd.underlying25 .nil rfl (by decide) rfl, ?_⟩
            refine ⟨_, OpP.move (.t rfl) rfl, ?_⟩
            refine ⟨_, OpP.appendC st25 (.inl ⟨_, Tryd.underlying25⟩) (.t rfl) (.v (.t rfl)) (by first | omega | (simp; done) | (simp; omega) | (simp at *; omega)) (by first | omega | (simp; done) | (simp; omega) | (simp at *; omega)) rfl, ?_⟩
            show wpB _ _ _ _ _ _ ((110, _) :: (109, _) :: (108, _) :: (107, _) :: _) _
            refine .n (.stW ty33 (.t rfl) (.t rfl) (.s (.s .z)) (.p (.assign (.t rfl) (.p (.assign (.i rfl) ?_)))))
            refine .nil ?_
            refine .ret ?_
            refine ⟨_, .r3 rfl (.cell ty33 rfl (.s (.s .z))) (.tmp rfl) (.tmp rfl), ?_⟩
            rw [algSeal_new hc21 (by omega) (findS_none fun j hj => h2 j hj (by omega)) (by omega), newBox_free hc66]; rfl
          · refine .seq ?_
            have hb17 := be64_length (UInt64.ofInt n) 8
            have hb18 := streamL_length k (UInt64.ofInt n) p p.length
            refine .drawC (by kernel_rfl) 10 [[], [(77, 0)], [(78, 1)], [], [], [(81, 4)], [], [(80, 3), (82, 5), (83, 6)], [(79, 2), (84, 7)], [(85, 8)]] [2, 8, 9] rfl (by kernel_rfl) rfl (by kernel_rfl) (by decide) ?_
            refine ⟨_, fun H => OpP.move (.t rfl) rfl, ?_⟩
            refine ⟨_, fun H => OpP.conv64 Tryd.underlying3 Tryd.underlying81 (.t rfl) rfl, ?_⟩
            refine .inl ?_
            refine ⟨_, fun H => OpP.ldP ty24 (.t rfl) rfl, ?_⟩
            refine ⟨_, fun H => OpP.move (.t rfl) rfl, ?_⟩
            refine ⟨_, fun H => OpP.conv64 Tryd.underlying3 Tryd.underlying81 (.t rfl) rfl, ?_⟩
            refine ⟨_, fun H => OpP.move (.t rfl) rfl, ?_⟩
            refine ⟨_, fun H => OpP.call1 hG (rStream_c _ _ _ (by first | omega | (simp; done) | (simp; omega) | (simp at *; omega))) (.cons (.t rfl) (.cons (.t rfl) (.cons (.t rfl) .nil))) rfl, ?_⟩
            refine .inl ?_
            refine .inl ?_
            refine OpH.call0 hG (eightOwn_c _) (.cons (.t rfl) .nil) fun r79 Hs79 hr79 => ?_
            obtain ⟨u79, rfl, rfl⟩ := hr79
            refine OpH.append st25 (.inl ⟨_, Tryd.underlying25⟩) rfl .z (.v (.t rfl)) (by first | omega | (simp; done) | (simp; omega) | (simp at *; omega)) (by first | omega | (simp; done) | (simp; omega) | (simp at *; omega)) (fun w85 => ?_) rfl
            refine OpH.ofP (OpP.assign (.t rfl) ?_)
            show wpB _ _ _ _ _ _ ((13, _) :: (85, _) :: (84, _) :: (83, _) :: (82, _) :: (81, _) :: (80, _) :: (79, _) :: (78, _) :: (77, _) :: _) _
            refine .nil ?_
            refine .seq ?_
            refine .drawZ [[false, false, false, false], [true, false, false, false], [true, false, false, false]] [[true, false, false, false], [false, false, false, false], [], [], []] [] [(4, (⟨(Arr 32 UInt8), inferInstance, default⟩ : AT))] 2 (by kernel_rfl) 5 [[], [], [(87, 1)], [(86, 0), (88, 2)], []] [2, 3] rfl (by kernel_rfl) rfl (by kernel_rfl) rfl (by decide) (by simp) (List.forall_mem_cons.2 ⟨fun o ho => by obtain rfl := Option.some.inj (show some _ = some o from ho); exact ⟨rfl, fun _ _ => OpH.alloc ty24 fun b => ⟨b, rfl, rfl⟩⟩, (fun p hp => by cases hp)⟩) (by kernel_rfl) rfl ?_
            refine ⟨_, fun H => OpP.slArrP (by decide) ar24 (.t rfl) rfl, ?_⟩
            refine ⟨_, fun H => OpP.move (.t rfl) rfl, ?_⟩
            refine .inl ?_
            refine .inl ?_
            refine .inl ?_
            refine ⟨rfl, ?_⟩
            refine ⟨⟨fun k => List.getD [(true, .none_), (true, .none_), (true, .none_), (true, .none_)] k (true, .none_), rfl⟩, fun Ys18 => ?_⟩
            refine OpH.lend0 hG (wordOwn_c _ _ (by first | omega | (simp; done) | (simp; omega) | (simp at *; omega)) (by first | omega | (simp; done) | (simp; omega) | (simp at *; omega))) (.cons (.e (.s [98, 111, 120] (by decide) (by decide))) (.cons (.own rfl (Hole.app (Hole.app .z))) .nil)) (by rintro _ _ ⟨u, rfl, rfl⟩; exact .own) fun r88 Hs88 hr88 => ?_
            obtain ⟨u88, rfl, rfl⟩ := hr88
            refine ⟨[_], _, rfl, ?_⟩
            refine ⟨⟨fun k => List.getD [_, (true, .none_), (true, .none_), (true, .none_)] k (true, .none_), rfl⟩, fun Ys18 => ?_⟩
            refine OpH.ofP (OpP.lend1 hG (rHmac_c _ _ (by first | omega | (simp; done) | (simp; omega) | (simp at *; omega)) (by first | omega | (simp; done) | (simp; omega) | (simp at *; omega))) (.cons (.e (.t rfl)) (.cons (.own rfl .z) .nil)) (by first | exact .v | exact .t2 .v .v | exact .t3 .v .v .v) ?_)
            refine ⟨[_], _, rfl, ?_⟩
            refine ⟨⟨fun k => List.getD [_, (true, .none_), (true, .none_), (true, .none_)] k (true, .none_), rfl⟩, fun ws18 => ?_⟩
            refine ⟨⟨fun k => List.getD [_, (true, .none_), (true, .none_), (true, .none_)] k (true, .none_), rfl⟩, fun _ => ?_⟩
            show wpB _ _ _ _ _ _ ((15, _) :: (89, _) :: (88, _) :: (87, _) :: (86, _) :: _) _
            refine .n (.stW ty24 (.t rfl) (.t rfl) (.s .z) ?_)
            refine .nil ?_
            refine .frzOb hC (.s .z) ?_
            refine .asP 15 rfl (.s .z) ?_
            refine .region rfl ?_
            refine .p (.move (.t rfl) (.p (.slArrP (by decide) ar24 (.t rfl) (.h (.append st25 (.inl ⟨_, Tryd.underlying25⟩) rfl (.s (.s .z)) (.v (.t rfl)) (by first | omega | (simp; done) | (simp; omega) | (simp at *; omega)) (by first | omega | (simp; done) | (simp; omega) | (simp at *; omega)) (fun w92 => .p (.assign (.t rfl) ?_)) rfl)))))
            refine .nil ?_
            refine .seq ?_
            refine .frzOwn hC (.s (.s .z)) ?_
            refine .as 13 rfl (.s (.s .z)) ?_
            refine .drawCF [false, false, false, false, false, false] (by kernel_rfl) 14 [[], [], [(94, 1)], [(93, 0), (95, 2)], [], [], [], [], [(99, 6), (100, 7)], [], [(97, 4), (98, 5), (101, 8), (102, 9)], [(103, 10)], [(96, 3), (104, 11)], []] [0, 3, 12] rfl (by kernel_rfl) rfl (by kernel_rfl) (by decide) ?_
            refine .inl ?_
            refine ⟨_, fun H => OpP.fldW G_api_Algebra.l4 fd33_4 rfl (.t rfl) rfl, ?_⟩
            refine ⟨_, fun H => OpP.ldF (fun x => x.Boxes) ty31 (.t rfl) (Hole.app (.s (.s (.s (.s (.s .z)))))) (fun _ => rfl) rfl, ?_⟩
            refine .inl ?_
            refine ⟨_, fun H => OpP.ldP ty24 (.t rfl) rfl, ?_⟩
            refine ⟨_, fun H => OpP.move (.t rfl) rfl, ?_⟩
            refine ⟨_, fun H => OpP.buildSliceF (α := UInt8) ty5 Tryd.underlying25 .nil rfl (by decide) rfl, ?_⟩
            refine ⟨_, fun H => OpP.move (.t rfl) rfl, ?_⟩
            refine ⟨_, fun H => OpP.appendC st25 (.inl ⟨_, Tryd.underlying25⟩) (.t rfl) (.v (.t rfl)) (by first | omega | (simp; done) | (simp; omega) | (simp at *; omega)) (by first | omega | (simp; done) | (simp; omega) | (simp at *; omega)) rfl, ?_⟩
            refine ⟨_, fun H => OpP.move (.t rfl) rfl, ?_⟩
            refine ⟨_, fun H => OpP.bS4 G_api_Sealed.l0 G_api_Sealed.l1 G_api_Sealed.l2 G_api_Sealed.l3 rfl ty64 fo64 (fun c0 c1 c2 c3 => (⟨c0, c1, c2, c3⟩ : G_api_Sealed)) (fun _ _ _ _ => rfl) rfl rfl rfl rfl rfl (.t rfl) (.t rfl) (.t rfl) (.t rfl) rfl, ?_⟩
            refine ⟨_, fun H => OpP.buildSliceF (α := G_api_Sealed) ty64 Tryd.underlying31 (.cons (.t rfl) .nil) rfl (by decide) rfl, ?_⟩
            refine .inl ?_
            refine ⟨_, fun H => OpP.fldW G_api_Algebra.l4 fd33_4 rfl (.t rfl) rfl, ?_⟩
            refine ⟨⟨([], fun k => List.getD [(true, .none_), (true, .none_), (true, .none_), (true, .none_), (true, .none_), (true, .none_)] k (true, .none_)), rfl⟩, ?_⟩
            refine OpH.buildSlice (α := G_api_Sealed) ty64 Tryd.underlying31 .nil rfl (by decide) fun b93 => ?_
            refine ⟨⟨([_], fun k => List.getD [(true, .none_), (true, .none_), (true, .none_), (true, .none_), (true, .none_), (true, .none_)] k (true, .none_)), rfl⟩, ?_⟩
            refine OpH.append st31 (.inl ⟨_, Tryd.underlying31⟩) rfl .z (.v (.t rfl)) (by first | omega | (simp; done) | (simp; omega) | (simp at *; omega)) (by first | omega | (simp; done) | (simp; omega) | (simp at *; omega)) (fun w96 => ?_) rfl
            refine ⟨⟨([_], fun k => List.getD [(true, .none_), (true, .none_), (true, .none_), (true, .none_), (true, .none_), (true, .none_)] k (true, .none_)), rfl⟩, ?_⟩
            refine OpH.append st31 (.inl ⟨_, Tryd.underlying31⟩) rfl .z (.v (.c rfl)) (by first | omega | (simp; done) | (simp; omega) | (simp at *; omega)) (by first | omega | (simp; done) | (simp; omega) | (simp at *; omega)) (fun w105 => ?_) rfl
            refine ⟨⟨([_], fun k => List.getD [(true, .none_), (true, .none_), (true, .none_), (true, .none_), (true, .none_), (true, .none_)] k (true, .none_)), rfl⟩, ?_⟩
            show wpB _ _ _ _ _ _ ((106, _) :: (105, _) :: (104, _) :: (103, _) :: (102, _) :: (101, _) :: (100, _) :: (99, _) :: (98, _) :: (97, _) :: (96, _) :: (95, _) :: (94, _) :: (93, _) :: _) _
            refine .frzOwn hC .z ?_
            refine .as 105 rfl .z ?_
            refine .n (.stF (fun y x => { x with Boxes := y }) ty31 (.t rfl) (.t rfl) (.s (.s (.s (.s (.s (.s .z)))))) (fun _ _ => rfl) ?_)
            refine .nil ?_
            refine .seq ?_
            refine .draw (by kernel_rfl) 4 [[], [], [], [(108, 1), (109, 2)]] rfl (by kernel_rfl) rfl ?_
            refine ⟨_, OpP.ldW ty33 (.t rfl) (.s (.s (.s (.s (.s (.s .z)))))) rfl, ?_⟩
            refine ⟨_, OpP.buildSliceF (α := UInt8) ty5 Tryd.underlying25 .nil rfl (by decide) rfl, ?_⟩
            refine ⟨_, OpP.move (.t rfl) rfl, ?_⟩
            refine ⟨_, OpP.appendC st25 (.inl ⟨_, Tryd.underlying25⟩) (.t rfl) (.v (.t rfl)) (by first | omega | (simp; done) | (simp; omega) | (simp at *; omega)) (by first | omega | (simp; done) | (simp; omega) | (simp at *; omega)) rfl, ?_⟩
            show wpB _ _ _ _ _ _ ((110, _) :: (109, _) :: (108, _) :: (107, _) :: _) _
            refine .n (.stW ty33 (.t rfl) (.t rfl) (.s (.s (.s (.s .z)))) (.p (.assign (.t rfl) (.p (.assign (.i rfl) ?_)))))
            refine .nil ?_
            refine .ret ?_
            refine ⟨_, .r3 rfl (.cell ty33 rfl (.s (.s (.s (.s .z))))) (.tmp rfl) (.tmp rfl), ?_⟩
            rw [algSeal_new hc21 (by omega) (findS_none fun j hj => h2 j hj (by omega)) (by omega), newBox_real hc66]; rfl
end Go.Proofs.YtkjpkdpnlioffaaDoor
set_option maxRecDepth 1000000
set_option linter.unusedVariables false
set_option linter.unusedSimpArgs false
namespace Go.Proofs.YtkjpkdpnlioffaaDoor
open Go.Fl Go.Ab Go.Mac Go.Sha
structure G_api_AlgebraR where
  Free : Bool
  Seed : (Arr 32 UInt8)
  Fresh : Int
  Macs : SlRaw
  Boxes : SlRaw
def G_api_AlgebraR.f (x : G_api_AlgebraR) : Bool × (Arr 32 UInt8) × Int × SlRaw × SlRaw × Unit := (x.Free, x.Seed, x.Fresh, x.Macs, x.Boxes, ())
instance : Inhabited G_api_AlgebraR := ⟨⟨default, default, default, default, default⟩⟩
instance : Rep G_api_AlgebraR := Rep.via G_api_AlgebraR.f
instance : RepZ G_api_AlgebraR := RepZ.via G_api_AlgebraR.f rfl
def G_api_AlgebraR.l0 : Lens G_api_AlgebraR Bool := Lens.via G_api_AlgebraR.f Lens.fst (fun x => x.Free) (fun y x => { x with Free := y }) (fun _ => rfl) (fun _ _ => rfl)
def G_api_AlgebraR.l3 : Lens G_api_AlgebraR SlRaw := Lens.via G_api_AlgebraR.f (Lens.snd.comp (Lens.snd.comp (Lens.snd.comp Lens.fst))) (fun x => x.Macs) (fun y x => { x with Macs := y }) (fun _ => rfl) (fun _ _ => rfl)
def G_api_AlgebraR.l4 : Lens G_api_AlgebraR SlRaw := Lens.via G_api_AlgebraR.f (Lens.snd.comp (Lens.snd.comp (Lens.snd.comp (Lens.snd.comp Lens.fst)))) (fun x => x.Boxes) (fun y x => { x with Boxes := y }) (fun _ => rfl) (fun _ _ => rfl)
structure G_algebra_MakerR where
  a : G_api_AlgebraR
  e : Int
def G_algebra_MakerR.f (x : G_algebra_MakerR) : G_api_AlgebraR × Int × Unit := (x.a, x.e, ())
instance : Inhabited G_algebra_MakerR := ⟨⟨default, default⟩⟩
instance : Rep G_algebra_MakerR := Rep.via G_algebra_MakerR.f
instance : RepZ G_algebra_MakerR := RepZ.via G_algebra_MakerR.f rfl
def G_algebra_MakerR.l0 : Lens G_algebra_MakerR G_api_AlgebraR := Lens.via G_algebra_MakerR.f Lens.fst (fun x => x.a) (fun y x => { x with a := y }) (fun _ => rfl) (fun _ _ => rfl)
def G_algebra_MakerR.l1 : Lens G_algebra_MakerR Int := Lens.via G_algebra_MakerR.f (Lens.snd.comp Lens.fst) (fun x => x.e) (fun y x => { x with e := y }) (fun _ => rfl) (fun _ _ => rfl)
theorem tyR30 : TyIs Tryd.prog 30 SlRaw := .of (by kernel_rfl) (by kernel_rfl) (by kernel_rfl) (by decide)
theorem tyR31 : TyIs Tryd.prog 31 SlRaw := .of (by kernel_rfl) (by kernel_rfl) (by kernel_rfl) (by decide)
theorem tyR33 : TyIs Tryd.prog 33 G_api_AlgebraR := .of (by kernel_rfl) (by kernel_rfl) (by kernel_rfl) (by decide)
theorem tyR90 : TyIs Tryd.prog 90 G_algebra_MakerR := .of (by kernel_rfl) (by kernel_rfl) (by kernel_rfl) (by decide)
def rawAlg (a : Alg) (um ub : Value) : G_api_AlgebraR := ⟨a.Free, a.Seed, a.Fresh, ⟨um⟩, ⟨ub⟩⟩
def rawMk (a : Alg) (e : Int) (um ub : Value) : G_algebra_MakerR := ⟨rawAlg a um ub, e⟩
theorem rawAlg_of (a : Alg) (I : Im) (u : Value) (h : RepV I (.v a) u) : ∃ x y, RepV I (.v (rawAlg a x y)) u ∧ RepV I (.v a.Macs) x ∧ RepV I (.v a.Boxes) y := by
  obtain ⟨cs, ⟨c1, r1, rfl, h1, c2, r2, rfl, h2, c3, r3, rfl, h3, c4, r4, rfl, h4, c5, r5, rfl, h5, h6⟩, rfl⟩ := h
  obtain ⟨v4, rfl, h4⟩ := h4
  obtain ⟨v5, rfl, h5⟩ := h5
  have o4 : v4.oneCell' = true := by obtain ⟨xs, ⟨a, c, rfl, _⟩, _⟩ := h4; rfl
  have o5 : v5.oneCell' = true := by obtain ⟨xs, ⟨a, c, rfl, _⟩, _⟩ := h5; rfl
  exact ⟨v4, v5, ⟨_, ⟨c1, _, rfl, h1, c2, _, rfl, h2, c3, _, rfl, h3, _, _, rfl, ⟨rfl, o4⟩, _, _, rfl, ⟨rfl, o5⟩, h6⟩, rfl⟩, ⟨_, ⟨v4, rfl, h4⟩, rfl⟩, ⟨_, ⟨v5, rfl, h5⟩, rfl⟩⟩
theorem rawAlg_to (a : Alg) (x y : Value) (I : Im) (u : Value) (h : RepV I (.v (rawAlg a x y)) u) (h4 : RepV I (.v a.Macs) x) (h5 : RepV I (.v a.Boxes) y) : RepV I (.v a) u := by
  obtain ⟨cs, ⟨c1, r1, rfl, h1, c2, r2, rfl, h2, c3, r3, rfl, h3, c4, r4, rfl, ⟨rfl, _⟩, c5, r5, rfl, ⟨rfl, _⟩, h6⟩, rfl⟩ := h
  obtain ⟨_, ⟨v4, rfl, h4⟩, rfl⟩ := h4
  obtain ⟨_, ⟨v5, rfl, h5⟩, rfl⟩ := h5
  exact ⟨_, ⟨c1, _, rfl, h1, c2, _, rfl, h2, c3, _, rfl, h3, _, _, rfl, ⟨_, rfl, h4⟩, _, _, rfl, ⟨_, rfl, h5⟩, h6⟩, rfl⟩
abbrev gsM (u : Value) (a : Alg) : Blk := .usr u (GS.mk 62 a.Macs)
abbrev gsB (u : Value) (a : Alg) : Blk := .usr u (GS.mk 64 a.Boxes)
abbrev mp (w : Value) : AV := .ln w (Lens.id (α := G_algebra_MakerR))
structure MkU where
  a : Alg
  e : Int
  um : Value
  ub : Value
def MkU.bs (w : Value) (x : MkU) : List Blk := [.ob w (rawMk x.a x.e x.um x.ub), gsM x.um x.a, gsB x.ub x.a]
theorem repK.mono {I J : Im} (hle : Le I J) : ∀ {Hs : List Blk} {L : Lh}, repK I Hs L → repK J Hs L
  | [], _, h => h
  | B :: Hs, _, h => by obtain ⟨X, R, h1, h2, h3⟩ := h; exact ⟨X, R, h1, Blk.mono hle h2, repK.mono hle h3⟩
instance : UB MkU where
  ub I w x X := ∃ L, X = L.flatten ∧ repK I (x.bs w) L
  mono hle h := by obtain ⟨L, h1, h2⟩ := h; exact ⟨L, h1, repK.mono hle h2⟩
theorem FunH.mk {G : Gl} {P : Program} {f : FuncId} {ag : List AV} {w : Value} {x : MkU} {post : AV → MkU → Prop} (h : FunH G P f ag (x.bs w) (fun r Hs => ∃ x', Hs = x'.bs w ∧ post r x')) :
    FunH G P f ag [.usr w x] (fun r Hs => ∃ x', Hs = [.usr w x'] ∧ post r x') := by
  refine .regroup fun I L vs hvs hL => ?_
  obtain ⟨X, R, rfl, ⟨L0, rfl, h1⟩, h2⟩ := hL
  obtain rfl : R = [] := h2
  refine ⟨ag, x.bs w, L0, by simp, hvs, h1, fun I L vs hG hvs hL => ?_⟩
  have hM := h I L vs hG hvs hL
  refine ⟨hM.ok, fun w0 hm => (hM.run w0 hm).mono ?_⟩
  rintro e w' ⟨v, J, L', rfl, q1, q2, q3, q4, q5, r, Hs, q6, q7, x', rfl, q8⟩
  exact ⟨v, J, L', rfl, q1, q2, q3, q4, q5, r, _, q6, q7, fun J' L1 h3 => ⟨[.usr w x'], [L1.flatten], by simp, ⟨_, [], rfl, ⟨L1, rfl, h3⟩, rfl⟩, x', rfl, q8⟩⟩
theorem FunH.mkNew {G : Gl} {P : Program} {f : FuncId} {ag : List AV} {post : AV → Value → MkU → Prop} (h : FunH G P f ag [] (fun r Hs => ∃ w x', Hs = MkU.bs w x' ∧ post r w x')) :
    FunH G P f ag [] (fun r Hs => ∃ w x', Hs = [.usr w x'] ∧ post r w x') := by
  refine .regroup fun I L vs hvs hL => ⟨ag, [], L, rfl, hvs, hL, fun I L vs hG hvs hL => ?_⟩
  have hM := h I L vs hG hvs hL
  refine ⟨hM.ok, fun w0 hm => (hM.run w0 hm).mono ?_⟩
  rintro e w' ⟨v, J, L', rfl, q1, q2, q3, q4, q5, r, Hs, q6, q7, w, x', rfl, q8⟩
  exact ⟨v, J, L', rfl, q1, q2, q3, q4, q5, r, _, q6, q7, fun J' L1 h3 => ⟨[.usr w x'], [L1.flatten], by simp, ⟨_, [], rfl, ⟨L1, rfl, h3⟩, rfl⟩, w, x', rfl, q8⟩⟩
theorem Begin_c (a : Alg) : FunH gl Tryd.prog 23 [.v a] [] (fun r Hs => ∃ w, ∃ x : MkU, Hs = [.usr w x] ∧ r = mp w ∧ x.a = a ∧ x.e = 0) := by
  refine FunH.mkNew (post := fun r w x => r = mp w ∧ x.a = a ∧ x.e = 0) ?_
  refine FunH.introS Tryd.func23 rfl (by kernel_rfl) 14 rfl rfl _ rfl _ rfl fun C hC hG => ?_
  refine .seq ?_
  refine .name2 0 (fun um ub => .v (rawAlg a um ub)) (rawAlg_of a) rfl fun um ub => ?_
  refine .region rfl ?_
  refine .h (.box (.t rfl) fun b1 => .p (.assign .raw ?_))
  refine .nil ?_
  refine .seq ?_
  refine .drawCF [false, false, false] (by kernel_rfl) 7 [[], [(3, 0)], [(4, 1)], [], [(6, 3)], [(7, 4)], []] [2, 5] rfl (by kernel_rfl) rfl (by kernel_rfl) (by decide) ?_
  refine ⟨_, fun H => OpP.fldW G_api_AlgebraR.l3 fd33_3 rfl (.t rfl) rfl, ?_⟩
  refine ⟨_, fun H => OpP.ldR (fun x => x.Macs) tyR30 (.t rfl) (Hole.app .z) (fun _ => rfl) rfl, ?_⟩
  refine .inl ?_
  refine ⟨_, fun H => OpP.fldW G_api_AlgebraR.l4 fd33_4 rfl (.t rfl) rfl, ?_⟩
  refine ⟨_, fun H => OpP.ldR (fun x => x.Boxes) tyR31 (.t rfl) (Hole.app .z) (fun _ => rfl) rfl, ?_⟩
  refine .inl ?_
  refine ⟨_, fun H => OpP.fldW G_api_AlgebraR.l3 fd33_3 rfl (.t rfl) rfl, ?_⟩
  refine ⟨⟨([], fun k => List.getD [(true, .none_), (true, .none_), (true, .none_)] k (true, .none_)), rfl⟩, ?_⟩
  refine OpH.call0 hG (FunA.gs 62 (clipMac_c _)) (.cons (.fzA rfl (.s .z)) .nil) fun r5 Hs5 hr5 => ?_
  obtain ⟨u5, rfl, rfl⟩ := hr5
  refine ⟨⟨([_], fun k => List.getD [(true, .none_), (true, .none_), (true, .none_)] k (true, .none_)), rfl⟩, ?_⟩
  refine OpH.call0 hG (FunA.gs 64 (clipSealed_c _)) (.cons (.fzA rfl (.s (.s (.s .z)))) .nil) fun r8 Hs8 hr8 => ?_
  obtain ⟨u8, rfl, rfl⟩ := hr8
  refine ⟨⟨([_, _], fun k => List.getD [(true, .none_), (true, .none_), (true, .none_)] k (true, .none_)), rfl⟩, ?_⟩
  show wpB _ _ _ _ _ _ ((9, _) :: (8, _) :: (7, _) :: (6, _) :: (5, _) :: (4, _) :: (3, _) :: _) _
  refine .n (.stF (fun y x => { x with Macs := y }) tyR30 (.t rfl) (.gs rfl (.s .z)) (.s (.s .z)) (fun _ _ => rfl) (.p (.fldW G_api_AlgebraR.l4 fd33_4 rfl (.t rfl) (.n (.stF (fun y x => { x with Boxes := y }) tyR31 (.t rfl) (.gs rfl .z) (.s (.s .z)) (fun _ _ => rfl) ?_)))))
  refine .nil ?_
  refine .seq ?_
  refine .region rfl ?_
  refine .p (.ldW tyR33 (.t rfl) (.s (.s .z)) (.p (.bS1 G_algebra_MakerR.l0 rfl tyR90 fo90 (fun c0 => (⟨c0, 0⟩ : G_algebra_MakerR)) (fun _ => rfl) rfl rfl (.t rfl) (.h (.box (.t rfl) fun b13 => .p (.assign (.t rfl) ?_))))))
  refine .nil ?_
  refine .ret ?_
  refine ⟨_, .r1 rfl (.tmp rfl), ?_⟩
  refine ⟨_, .cons .z (.cons (.s (.s .z)) (.cons (.s .z) (.nil))), ?_⟩
  exact ⟨ptr b13 0, ⟨a, 0, u5, u8⟩, rfl, rfl, rfl, rfl⟩
theorem Fail_raw (w : Value) (s : G_algebra_MakerR) (e : Int) : FunH gl Tryd.prog 26 [mp w, .v e] [.ob w s] (fun r Hs => Hs = [.ob w { s with e := if s.e = 0 then e else s.e }]) := by
  refine FunH.intro Tryd.func26 rfl (by kernel_rfl) 13 rfl rfl _ rfl _ rfl fun C hC hG => ?_
  refine .seq ?_
  refine .region rfl ?_
  refine .p (.move (.t rfl) (.p (.nilCheckL (.t rfl) (.p (.fldW G_algebra_MakerR.l1 fd90_1 rfl (.t rfl) (.p (.ldF (fun x => x.e) ty39 (.t rfl) .z (fun _ => rfl) (.p (.eqlI (.t rfl) (.i rfl) ?_)))))))))
  refine .nil ?_
  refine .condP (.t rfl) (fun hc8 => ?_) (fun hc8 => ?_)
  · refine .region rfl ?_
    refine .p (.move (.t rfl) (.p (.move (.t rfl) (.p (.nilCheckL (.t rfl) (.p (.fldW G_algebra_MakerR.l1 fd90_1 rfl (.t rfl) (.n (.stF (fun y x => { x with e := y }) ty39 (.t rfl) (.t rfl) .z (fun _ _ => rfl) ?_)))))))))
    refine .nil ?_
    refine ⟨_, .r0 rfl , ?_⟩
    have h8 : s.e = 0 := hc8
    rw [if_pos h8]; rfl
  · refine .skip ?_
    refine ⟨_, .r0 rfl , ?_⟩
    have h8 : ¬ s.e = 0 := hc8
    rw [if_neg h8]; rfl
def mkMac (a : Alg) (e : Int) (k : Tag) (m : List UInt8) : Tag × Alg × Int := if e ≠ 0 then (default, a, e) else ((algMac a k m).2.1, if (algMac a k m).2.2 = 0 then (algMac a k m).1 else a, (algMac a k m).2.2)
theorem mkMac_err {a : Alg} {e : Int} {k : Tag} {m : List UInt8} (h : e ≠ 0) : mkMac a e k m = (default, a, e) := by unfold mkMac; rw [if_pos h]
theorem mkMac_of {a : Alg} {e : Int} {k : Tag} {m : List UInt8} (h : e = 0) {r} (h2 : algMac a k m = r) : mkMac a e k m = (r.2.1, if r.2.2 = 0 then r.1 else a, r.2.2) := by unfold mkMac; rw [if_neg (by omega), h2]
theorem idx_lt {α : Type} {l : List α} {p : α → Bool} (h : 0 ≤ idx l p) : idx l p < l.length := by
  unfold idx at *; split at h <;> split <;> omega
theorem idx_get {α : Type} {l : List α} {p : α → Bool} (h : 0 ≤ idx l p) (h2 : (idx l p).toNat < l.length) : l.find? p = some l[(idx l p).toNat] := by
  have h3 : l.findIdx p < l.length := by unfold idx at h; split at h <;> omega
  have h4 : (idx l p).toNat = l.findIdx p := by unfold idx; rw [if_pos h3]; rfl
  simp only [h4]
  exact List.find?_eq_some_iff_getElem.2 ⟨List.findIdx_getElem (w := h3), _, h3, rfl, fun j hj => by simpa using List.not_of_lt_findIdx hj⟩
theorem idx_neg {α : Type} {l : List α} {p : α → Bool} (h : ¬ 0 ≤ idx l p) : l.find? p = none := by
  unfold idx at h
  split at h
  · omega
  · next h3 => exact List.find?_eq_none.2 fun x hx hp => h3 (List.findIdx_lt_length_of_exists ⟨x, hx, hp⟩)
theorem algMac_at {a : Alg} {k : Tag} {m : List UInt8} (h : ¬ 4096 < m.length) (hi : 0 ≤ idx a.Macs (macEq k m)) (h2 : (idx a.Macs (macEq k m)).toNat < a.Macs.length) : algMac a k m = (a, a.Macs[(idx a.Macs (macEq k m)).toNat].Tag, 0) := by
  unfold algMac algFind; rw [if_neg h, idx_get hi h2]
theorem Mac_raw (w : Value) (a : Alg) (e : Int) (um ub : Value) (B : Blk) (k : Tag) (m : List UInt8) (hl : a.Macs.length ≤ 1000000) : FunH gl Tryd.prog 54 [mp w, .v k, .v m] [.ob w (rawMk a e um ub), gsM um a, B]
    (fun r Hs => ∃ um', r = .v (mkMac a e k m).1 ∧ Hs = [.ob w (rawMk (mkMac a e k m).2.1 (mkMac a e k m).2.2 um' ub), gsM um' (mkMac a e k m).2.1, B]) := by
  refine FunH.introS Tryd.func54 rfl (by kernel_rfl) 80 rfl rfl _ rfl _ rfl fun C hC hG => ?_
  refine .seq ?_
  have hr0 : (rawMk a e um ub).a.Fresh = a.Fresh := rfl
  refine .region rfl ?_
  refine .h (.box (.t rfl) fun b4 => .h (.alloc ty24 fun b6 => ?_))
  refine .nil ?_
  refine .seq ?_
  refine .seq ?_
  refine .frzOb hC (.s .z) ?_
  refine .asP 4 rfl (.s .z) ?_
  refine .region rfl ?_
  refine .p (.move (.t rfl) (.p (.len Tryd.underlying25 (.t rfl) (.p (.gtr (.t rfl) (.i rfl) ?_)))))
  refine .nil ?_
  refine .condP (.t rfl) (fun hc12 => ?_) (fun hc12 => ?_)
  · refine .region rfl ?_
    refine .p (.move (.t rfl) (.h (.callM hG (Fail_raw _ _ _) (.s (.s .z)) (.cons (.t rfl) (.cons (.i rfl) .nil)) (by rintro _ _ rfl; exact ⟨_, rfl⟩) fun r14 B14 hr14 => ?_)))
    cases hr14
    refine .nil ?_
    refine .seq ?_
    refine .seq ?_
    refine .region rfl ?_
    refine .p (.move (.t rfl) (.p (.nilCheckL (.t rfl) (.p (.fldW G_algebra_MakerR.l1 fd90_1 rfl (.t rfl) (.p (.ldF (fun x => x.e) ty39 (.t rfl) (.s (.s .z)) (fun _ => rfl) (.p (.neqI (.t rfl) (.i rfl) ?_)))))))))
    refine .nil ?_
    refine .condP (.t rfl) (fun hc19 => ?_) (fun hc19 => (by exfalso; apply hc19; show (if e = 0 then (2 : Int) else e) ≠ 0; split <;> omega))
    refine .seq ?_
    refine .region rfl ?_
    refine .p (.buildA (default : (Arr 32 UInt8)) ty24 ar24 .nil rfl (.n (.stW ty24 (.t rfl) (.t rfl) .z ?_)))
    refine .nil ?_
    refine .ret ?_
    refine ⟨_, .r1 rfl (.cell ty24 rfl .z), ?_⟩
    refine ⟨_, .cons (.s (.s .z)) (.cons (.s (.s (.s .z))) (.cons (.s (.s (.s (.s .z)))) (.nil))), ?_⟩
    by_cases he : e = 0
    · rw [mkMac_of he (algMac_long (by omega))]; exact ⟨um, rfl, by rw [he]; rfl⟩
    · rw [mkMac_err he]; refine ⟨um, rfl, ?_⟩; show Blk.ob w (G_algebra_MakerR.mk _ (if e = 0 then (2 : Int) else e)) :: _ = _; rw [if_neg he]; rfl
  · refine .skip ?_
    refine .seq ?_
    refine .seq ?_
    refine .region rfl ?_
    refine .p (.move (.t rfl) (.p (.nilCheckL (.t rfl) (.p (.fldW G_algebra_MakerR.l1 fd90_1 rfl (.t rfl) (.p (.ldF (fun x => x.e) ty39 (.t rfl) (.s (.s .z)) (fun _ => rfl) (.p (.neqI (.t rfl) (.i rfl) ?_)))))))))
    refine .nil ?_
    refine .condP (.t rfl) (fun hc19 => ?_) (fun hc19 => ?_)
    · refine .seq ?_
      refine .region rfl ?_
      refine .p (.buildA (default : (Arr 32 UInt8)) ty24 ar24 .nil rfl (.n (.stW ty24 (.t rfl) (.t rfl) .z ?_)))
      refine .nil ?_
      refine .ret ?_
      refine ⟨_, .r1 rfl (.cell ty24 rfl .z), ?_⟩
      refine ⟨_, .cons (.s (.s .z)) (.cons (.s (.s (.s .z))) (.cons (.s (.s (.s (.s .z)))) (.nil))), ?_⟩
      have he : e ≠ 0 := hc19
      rw [mkMac_err he]; exact ⟨um, rfl, rfl⟩
    · refine .skip ?_
      refine .seq ?_
      refine .seq ?_
      refine .draw (by kernel_rfl) 9 [[], [(21, 0)], [(22, 1)], [(23, 2)], [(24, 3)], [], [], [(25, 4), (26, 5), (27, 6)], [(28, 7)]] rfl (by kernel_rfl) rfl ?_
      refine ⟨_, OpP.move (.t rfl) rfl, ?_⟩
      refine ⟨_, OpP.nilCheckL (.t rfl) rfl, ?_⟩
      refine ⟨_, OpP.fldW G_algebra_MakerR.l0 fd90_0 rfl (.t rfl) rfl, ?_⟩
      refine ⟨_, OpP.fldL G_api_AlgebraR.l3 fd33_3 rfl (.t rfl) rfl, ?_⟩
      refine ⟨_, OpP.ldR (fun x => x.a.Macs) tyR30 (.t rfl) (.s (.s .z)) (fun _ => rfl) rfl, ?_⟩
      refine ⟨_, OpP.ldP ty24 (.t rfl) rfl, ?_⟩
      refine ⟨_, OpP.move (.t rfl) rfl, ?_⟩
      refine ⟨_, OpP.lend1 hG (find_c _ _ _) (.cons (.gs rfl (.s (.s (.s .z)))) (.cons (.e (.t rfl)) (.cons (.e (.t rfl)) .nil))) (by first | exact .v | exact .t2 .v .v | exact .t3 .v .v .v) rfl, ?_⟩
      refine ⟨_, OpP.assign (.t rfl) rfl, ?_⟩
      show wpB _ _ _ _ _ _ ((7, _) :: (28, _) :: (27, _) :: (26, _) :: (25, _) :: (24, _) :: (23, _) :: (22, _) :: (21, _) :: _) _
      refine .nil ?_
      refine .seq ?_
      refine .region rfl ?_
      refine .p (.move (.t rfl) (.p (.geq (.t rfl) (.i rfl) ?_)))
      refine .nil ?_
      refine .condP (.t rfl) (fun hc30 => ?_) (fun hc30 => ?_)
      · refine .seq ?_
        refine .gsCases (.s (.s (.s .z))) ?_ ?_
        · have hi7 : 0 ≤ idx a.Macs (macEq k m) := hc30
          have hl7 := idx_lt hi7
          refine .region rfl ?_
          refine .p (.move (.t rfl) (.p (.nilCheckL (.t rfl) (.p (.fldW G_algebra_MakerR.l0 fd90_0 rfl (.t rfl) (.p (.fldL G_api_AlgebraR.l3 fd33_3 rfl (.t rfl) (.p (.ldR (fun x => x.a.Macs) tyR30 (.t rfl) (.s (.s .z)) (fun _ => rfl) ?_)))))))))
          refine .p (.move (.t rfl) (.p (.idx ty62 Tryd.underlying30 (.fzC rfl (.s (.s (.s .z)))) (.t rfl) (by first | omega | (simp; done) | (simp; omega) | (simp at *; omega)) (by first | omega | (simp; done) | (simp; omega) | (simp at *; omega)) (.p (.fldPF G_api_Mac.l2 (fun x => x.Tag) fd62_2 rfl (fun _ => rfl) (.t rfl) (.p (.ldP ty24 (.t rfl) (.n (.stW ty24 (.t rfl) (.t rfl) .z ?_)))))))))
          refine .nil ?_
          refine .ret ?_
          refine ⟨_, .r1 rfl (.cell ty24 rfl .z), ?_⟩
          refine ⟨_, .cons (.s (.s .z)) (.gsC (.s (.s (.s .z))) (.cons (.s (.s (.s (.s .z)))) (.nil))), ?_⟩
          have he : e = 0 := by have h9 : ¬ (e ≠ 0) := hc19; omega
          rw [mkMac_of he (algMac_at (by omega) hi7 (by omega))]; exact ⟨um, rfl, by rw [he]; rfl⟩
        · have hi7 : 0 ≤ idx a.Macs (macEq k m) := hc30
          have hl7 := idx_lt hi7
          refine .region rfl ?_
          refine .p (.move (.t rfl) (.p (.nilCheckL (.t rfl) (.p (.fldW G_algebra_MakerR.l0 fd90_0 rfl (.t rfl) (.p (.fldL G_api_AlgebraR.l3 fd33_3 rfl (.t rfl) (.p (.ldR (fun x => x.a.Macs) tyR30 (.t rfl) (.s (.s .z)) (fun _ => rfl) ?_)))))))))
          refine .p (.move (.t rfl) (.p (.idxOwn ty62 Tryd.underlying30 rfl (.s (.s (.s .z))) (.t rfl) (by first | omega | (simp; done) | (simp; omega) | (simp at *; omega)) (by first | omega | (simp; done) | (simp; omega) | (simp at *; omega)) (.p (.fldE G_api_Mac.l2 fd62_2 rfl (.t rfl) (.p (.ldE ty24 (.t rfl) (.s (.s (.s .z))) (by first | omega | (simp; done) | (simp; omega) | (simp at *; omega)) (.n (.stW ty24 (.t rfl) (.t rfl) .z ?_)))))))))
          refine .nil ?_
          refine .ret ?_
          refine ⟨_, .r1 rfl (.cell ty24 rfl .z), ?_⟩
          refine ⟨_, .cons (.s (.s .z)) (.gsO (.s (.s (.s .z))) (.cons (.s (.s (.s (.s .z)))) (.nil))), ?_⟩
          have he : e = 0 := by have h9 : ¬ (e ≠ 0) := hc19; omega
          rw [mkMac_of he (algMac_at (by omega) hi7 (by omega))]; exact ⟨um, rfl, by rw [he]; rfl⟩
      · refine .skip ?_
        refine .seq ?_
        refine .region rfl ?_
        refine .p (.move (.t rfl) (.p (.nilCheckL (.t rfl) (.p (.fldW G_algebra_MakerR.l0 fd90_0 rfl (.t rfl) (.p (.fldL G_api_AlgebraR.l3 fd33_3 rfl (.t rfl) (.p (.ldR (fun x => x.a.Macs) tyR30 (.t rfl) (.s (.s .z)) (fun _ => rfl) ?_)))))))))
        refine .p (.lenGS Tryd.underlying30 rfl (.s (.s (.s .z))) (.p (.add (.t rfl) (.i rfl) (by first | omega | (simp; done) | (simp; omega) | (simp at *; omega)) (by first | omega | (simp; done) | (simp; omega) | (simp at *; omega)) (.p (.assign (.t rfl) ?_)))))
        refine .nil ?_
        refine .seq ?_
        refine .seq ?_
        refine .region rfl ?_
        refine .p (.move (.t rfl) (.p (.gtr (.t rfl) (.i rfl) ?_)))
        refine .nil ?_
        refine .condP (.t rfl) (fun hc48 => ?_) (fun hc48 => ?_)
        · refine .seq ?_
          refine .region rfl ?_
          refine .p (.move (.t rfl) (.h (.callM hG (Fail_raw _ _ _) (.s (.s .z)) (.cons (.t rfl) (.cons (.i rfl) .nil)) (by rintro _ _ rfl; exact ⟨_, rfl⟩) fun r50 B50 hr50 => ?_)))
          cases hr50
          refine .nil ?_
          refine .seq ?_
          refine .region rfl ?_
          refine .p (.buildA (default : (Arr 32 UInt8)) ty24 ar24 .nil rfl (.n (.stW ty24 (.t rfl) (.t rfl) .z ?_)))
          refine .nil ?_
          refine .ret ?_
          refine ⟨_, .r1 rfl (.cell ty24 rfl .z), ?_⟩
          refine ⟨_, .cons (.s (.s .z)) (.cons (.s (.s (.s .z))) (.cons (.s (.s (.s (.s .z)))) (.nil))), ?_⟩
          have he : e = 0 := by have h9 : ¬ (e ≠ 0) := hc19; omega
          have hf := idx_neg hc30
          rw [mkMac_of he (algMac_full (by omega) hf (by simp at hc48; omega))]; exact ⟨um, rfl, by rw [he]; rfl⟩
        · refine .skip ?_
          refine .seq ?_
          refine .region rfl ?_
          refine .p (.move (.t rfl) (.p (.call1 hG (Symbol_c _ _) (.cons (.u8 109 rfl) (.cons (.t rfl) .nil)) (.h (.alloc ty24 fun b9 => .n (.stW ty24 (.t rfl) (.t rfl) .z ?_))))))
          refine .nil ?_
          refine .seq ?_
          refine .seq ?_
          refine .region rfl ?_
          refine .p (.move (.t rfl) (.p (.nilCheckL (.t rfl) (.p (.fldW G_algebra_MakerR.l0 fd90_0 rfl (.t rfl) (.p (.fldL G_api_AlgebraR.l0 fd33_0 rfl (.t rfl) (.p (.ldF (fun x => x.a.Free) ty4 (.t rfl) (.s (.s (.s .z))) (fun _ => rfl) (.p (.not (.t rfl) ?_)))))))))))
          refine .nil ?_
          refine .cond (.t rfl) (fun hc59 => ?_) (fun hc59 => ?_)
          · refine .region rfl ?_
            refine .p (.slArrP (by decide) ar24 (.t rfl) (.p (.move (.t rfl) (.p (.call1 hG (hmacOf_c _ _ (by first | omega | (simp; done) | (simp; omega) | (simp at *; omega)) (by first | omega | (simp; done) | (simp; omega) | (simp at *; omega))) (.cons (.t rfl) (.cons (.t rfl) .nil)) (.n (.stW ty24 (.t rfl) (.t rfl) .z ?_)))))))
            refine .nil ?_
            refine .seq ?_
            refine .drawCF [false, false, false, false, true, false] (by kernel_rfl) 16 [[], [], [(64, 1)], [(65, 2)], [(66, 3)], [(67, 4)], [], [], [(70, 7)], [], [(69, 6), (71, 8), (72, 9)], [(73, 10)], [(68, 5), (74, 11)], [(63, 0)], [(76, 13)], [(77, 14)]] [5, 12] rfl (by kernel_rfl) rfl (by kernel_rfl) (by decide) ?_
            refine ⟨_, fun H => OpP.move (.t rfl) rfl, ?_⟩
            refine ⟨_, fun H => OpP.move (.t rfl) rfl, ?_⟩
            refine ⟨_, fun H => OpP.nilCheckL (.t rfl) rfl, ?_⟩
            refine ⟨_, fun H => OpP.fldW G_algebra_MakerR.l0 fd90_0 rfl (.t rfl) rfl, ?_⟩
            refine ⟨_, fun H => OpP.fldL G_api_AlgebraR.l3 fd33_3 rfl (.t rfl) rfl, ?_⟩
            refine .inl ?_
            refine ⟨_, fun H => OpP.ldP ty24 (.t rfl) rfl, ?_⟩
            refine ⟨_, fun H => OpP.move (.t rfl) rfl, ?_⟩
            refine ⟨_, fun H => OpP.call1 hG (bytesClone_c _ (by first | omega | (simp; done) | (simp; omega) | (simp at *; omega))) (.cons (.t rfl) .nil) rfl, ?_⟩
            refine ⟨_, fun H => OpP.ldW ty24 (.t rfl) (Hole.app .z) rfl, ?_⟩
            refine ⟨_, fun H => OpP.bS3 G_api_Mac.l0 G_api_Mac.l1 G_api_Mac.l2 rfl ty62 fo62 (fun c0 c1 c2 => (⟨c0, c1, c2⟩ : G_api_Mac)) (fun _ _ _ => rfl) rfl rfl rfl rfl (.t rfl) (.t rfl) (.t rfl) rfl, ?_⟩
            refine ⟨_, fun H => OpP.buildSliceF (α := G_api_Mac) ty62 Tryd.underlying30 (.cons (.t rfl) .nil) rfl (by decide) rfl, ?_⟩
            refine .inl ?_
            refine ⟨_, fun H => OpP.nilCheckL (.t rfl) rfl, ?_⟩
            refine ⟨_, fun H => OpP.fldW G_algebra_MakerR.l0 fd90_0 rfl (.t rfl) rfl, ?_⟩
            refine ⟨_, fun H => OpP.fldL G_api_AlgebraR.l3 fd33_3 rfl (.t rfl) rfl, ?_⟩
            refine ⟨⟨([], fun k => List.getD [(true, .none_), (true, .none_), (true, .none_), (true, .none_), _, (true, .none_)] k (true, .none_)), rfl⟩, ?_⟩
            refine OpH.ofP (OpP.ldR (fun x => x.a.Macs) tyR30 (.t rfl) (.s (.s (.s .z))) (fun _ => rfl) ?_)
            refine ⟨⟨([], fun k => List.getD [(true, .none_), (true, .none_), (true, .none_), (true, .none_), _, (true, .none_)] k (true, .none_)), rfl⟩, ?_⟩
            refine OpH.appendGS st30 (.inl ⟨_, Tryd.underlying30⟩) rfl (.s (.s (.s (.s .z)))) (.v (.c rfl)) (by first | omega | (simp; done) | (simp; omega) | (simp at *; omega)) (by first | omega | (simp; done) | (simp; omega) | (simp at *; omega)) fun w75 => ?_
            refine ⟨⟨([], fun k => List.getD [(true, .none_), (true, .none_), (true, .none_), (true, .none_), _, (true, .none_)] k (true, .none_)), rfl⟩, ?_⟩
            show wpB _ _ _ _ _ _ ((78, _) :: (77, _) :: (76, _) :: (75, _) :: (74, _) :: (73, _) :: (72, _) :: (71, _) :: (70, _) :: (69, _) :: (68, _) :: (67, _) :: (66, _) :: (65, _) :: (64, _) :: (63, _) :: _) _
            refine .n (.stF (fun y x => { x with a.Macs := y }) tyR30 (.t rfl) (.gs rfl (.s (.s (.s (.s .z))))) (.s (.s (.s .z))) (fun _ _ => rfl) ?_)
            refine .nil ?_
            refine .seq ?_
            refine .region rfl ?_
            refine .p (.ldW ty24 (.t rfl) .z (.n (.stW ty24 (.t rfl) (.t rfl) (.s .z) ?_)))
            refine .nil ?_
            refine .ret ?_
            refine ⟨_, .r1 rfl (.cell ty24 rfl (.s .z)), ?_⟩
            refine ⟨_, .cons (.s (.s (.s .z))) (.cons (.s (.s (.s (.s .z)))) (.cons (.s (.s (.s (.s (.s .z))))) (.nil))), ?_⟩
            have he : e = 0 := by have h9 : ¬ (e ≠ 0) := hc19; omega
            have hf := idx_neg hc30
            rw [mkMac_of he (algMac_new (by omega) hf (by simp at hc48; omega)), newTag_real (show a.Free = false from by have h9 : (!a.Free) = true := hc59; simpa using h9)]; exact ⟨w75, rfl, by rw [he]; rfl⟩
          · refine .skip ?_
            refine .seq ?_
            refine .drawCF [false, false, false, false, true, false] (by kernel_rfl) 16 [[], [], [(64, 1)], [(65, 2)], [(66, 3)], [(67, 4)], [], [], [(70, 7)], [], [(69, 6), (71, 8), (72, 9)], [(73, 10)], [(68, 5), (74, 11)], [(63, 0)], [(76, 13)], [(77, 14)]] [5, 12] rfl (by kernel_rfl) rfl (by kernel_rfl) (by decide) ?_
            refine ⟨_, fun H => OpP.move (.t rfl) rfl, ?_⟩
            refine ⟨_, fun H => OpP.move (.t rfl) rfl, ?_⟩
            refine ⟨_, fun H => OpP.nilCheckL (.t rfl) rfl, ?_⟩
            refine ⟨_, fun H => OpP.fldW G_algebra_MakerR.l0 fd90_0 rfl (.t rfl) rfl, ?_⟩
            refine ⟨_, fun H => OpP.fldL G_api_AlgebraR.l3 fd33_3 rfl (.t rfl) rfl, ?_⟩
            refine .inl ?_
            refine ⟨_, fun H => OpP.ldP ty24 (.t rfl) rfl, ?_⟩
            refine ⟨_, fun H => OpP.move (.t rfl) rfl, ?_⟩
            refine ⟨_, fun H => OpP.call1 hG (bytesClone_c _ (by first | omega | (simp; done) | (simp; omega) | (simp at *; omega))) (.cons (.t rfl) .nil) rfl, ?_⟩
            refine ⟨_, fun H => OpP.ldW ty24 (.t rfl) (Hole.app .z) rfl, ?_⟩
            refine ⟨_, fun H => OpP.bS3 G_api_Mac.l0 G_api_Mac.l1 G_api_Mac.l2 rfl ty62 fo62 (fun c0 c1 c2 => (⟨c0, c1, c2⟩ : G_api_Mac)) (fun _ _ _ => rfl) rfl rfl rfl rfl (.t rfl) (.t rfl) (.t rfl) rfl, ?_⟩
            refine ⟨_, fun H => OpP.buildSliceF (α := G_api_Mac) ty62 Tryd.underlying30 (.cons (.t rfl) .nil) rfl (by decide) rfl, ?_⟩
            refine .inl ?_
            refine ⟨_, fun H => OpP.nilCheckL (.t rfl) rfl, ?_⟩
            refine ⟨_, fun H => OpP.fldW G_algebra_MakerR.l0 fd90_0 rfl (.t rfl) rfl, ?_⟩
            refine ⟨_, fun H => OpP.fldL G_api_AlgebraR.l3 fd33_3 rfl (.t rfl) rfl, ?_⟩
            refine ⟨⟨([], fun k => List.getD [(true, .none_), (true, .none_), (true, .none_), (true, .none_), _, (true, .none_)] k (true, .none_)), rfl⟩, ?_⟩
            refine OpH.ofP (OpP.ldR (fun x => x.a.Macs) tyR30 (.t rfl) (.s (.s (.s .z))) (fun _ => rfl) ?_)
            refine ⟨⟨([], fun k => List.getD [(true, .none_), (true, .none_), (true, .none_), (true, .none_), _, (true, .none_)] k (true, .none_)), rfl⟩, ?_⟩
            refine OpH.appendGS st30 (.inl ⟨_, Tryd.underlying30⟩) rfl (.s (.s (.s (.s .z)))) (.v (.c rfl)) (by first | omega | (simp; done) | (simp; omega) | (simp at *; omega)) (by first | omega | (simp; done) | (simp; omega) | (simp at *; omega)) fun w75 => ?_
            refine ⟨⟨([], fun k => List.getD [(true, .none_), (true, .none_), (true, .none_), (true, .none_), _, (true, .none_)] k (true, .none_)), rfl⟩, ?_⟩
            show wpB _ _ _ _ _ _ ((78, _) :: (77, _) :: (76, _) :: (75, _) :: (74, _) :: (73, _) :: (72, _) :: (71, _) :: (70, _) :: (69, _) :: (68, _) :: (67, _) :: (66, _) :: (65, _) :: (64, _) :: (63, _) :: _) _
            refine .n (.stF (fun y x => { x with a.Macs := y }) tyR30 (.t rfl) (.gs rfl (.s (.s (.s (.s .z))))) (.s (.s (.s .z))) (fun _ _ => rfl) ?_)
            refine .nil ?_
            refine .seq ?_
            refine .region rfl ?_
            refine .p (.ldW ty24 (.t rfl) .z (.n (.stW ty24 (.t rfl) (.t rfl) (.s .z) ?_)))
            refine .nil ?_
            refine .ret ?_
            refine ⟨_, .r1 rfl (.cell ty24 rfl (.s .z)), ?_⟩
            refine ⟨_, .cons (.s (.s (.s .z))) (.cons (.s (.s (.s (.s .z)))) (.cons (.s (.s (.s (.s (.s .z))))) (.nil))), ?_⟩
            have he : e = 0 := by have h9 : ¬ (e ≠ 0) := hc19; omega
            have hf := idx_neg hc30
            rw [mkMac_of he (algMac_new (by omega) hf (by simp at hc48; omega)), newTag_free (show a.Free = true from by have h9 : (!a.Free) = false := hc59; simpa using h9)]; exact ⟨w75, rfl, by rw [he]; rfl⟩
theorem Done_raw (w : Value) (s : G_algebra_MakerR) (B1 B2 : Blk) : FunH gl Tryd.prog 52 [mp w] [.ob w s, B1, B2] (fun r Hs => r = .t2 (.v (if s.e ≠ 0 then default else s.a)) (.v s.e) ∧ Hs = [.ob w s, B1, B2]) := by
  refine FunH.introS Tryd.func52 rfl (by kernel_rfl) 18 rfl rfl _ rfl _ rfl fun C hC hG => ?_
  refine .seq ?_
  refine .region rfl ?_
  refine .h (.alloc tyR33 fun b2 => .p (.assign (.i rfl) ?_))
  refine .nil ?_
  refine .seq ?_
  refine .seq ?_
  refine .region rfl ?_
  refine .p (.move (.t rfl) (.p (.nilCheckL (.t rfl) (.p (.fldW G_algebra_MakerR.l1 fd90_1 rfl (.t rfl) (.p (.ldF (fun x => x.e) ty39 (.t rfl) (.s .z) (fun _ => rfl) (.p (.neqI (.t rfl) (.i rfl) ?_)))))))))
  refine .nil ?_
  refine .condP (.t rfl) (fun hc8 => ?_) (fun hc8 => ?_)
  · refine .seq ?_
    refine .drawCF [true, false, false, false] (by kernel_rfl) 7 [[], [], [(10, 1)], [(11, 2)], [(12, 3)], [(9, 0)], [(13, 4)]] [5] rfl (by kernel_rfl) rfl (by kernel_rfl) (by decide) ?_
    refine ⟨_, fun H => OpP.bS0 (α := G_api_AlgebraR) rfl tyR33 fo33 rfl, ?_⟩
    refine ⟨_, fun H => OpP.move (.t rfl) rfl, ?_⟩
    refine ⟨_, fun H => OpP.nilCheckL (.t rfl) rfl, ?_⟩
    refine ⟨_, fun H => OpP.fldW G_algebra_MakerR.l1 fd90_1 rfl (.t rfl) rfl, ?_⟩
    refine ⟨_, fun H => OpP.ldF (fun x => x.e) ty39 (.t rfl) (Hole.app (.s .z)) (fun _ => rfl) rfl, ?_⟩
    refine .inl ?_
    refine ⟨_, fun H => OpP.assign (.t rfl) rfl, ?_⟩
    refine ⟨⟨([], fun k => List.getD [_, (true, .none_), (true, .none_), (true, .none_)] k (true, .none_)), rfl⟩, ?_⟩
    refine OpH.stW tyR33 (.t rfl) (.t rfl) .z ?_
    refine ⟨⟨([], fun k => List.getD [_, (true, .none_), (true, .none_), (true, .none_)] k (true, .none_)), rfl⟩, ?_⟩
    show wpB _ _ _ _ _ _ ((3, _) :: (13, _) :: (12, _) :: (11, _) :: (10, _) :: (9, _) :: _) _
    refine .nil ?_
    refine .ret ?_
    refine ⟨_, .r2 rfl (.cell tyR33 rfl .z) (.tmp rfl), ?_⟩
    refine ⟨_, .cons (.s .z) (.cons (.s (.s .z)) (.cons (.s (.s (.s .z))) (.nil))), ?_⟩
    rw [if_pos hc8]; exact ⟨rfl, rfl⟩
  · refine .skip ?_
    refine .seq ?_
    refine .region rfl ?_
    refine .p (.move (.t rfl) (.p (.nilCheckL (.t rfl) (.p (.fldW G_algebra_MakerR.l0 fd90_0 rfl (.t rfl) (.p (.ldF (fun x => x.a) tyR33 (.t rfl) (.s .z) (fun _ => rfl) (.n (.stW tyR33 (.t rfl) (.t rfl) .z (.p (.assign (.i rfl) ?_)))))))))))
    refine .nil ?_
    refine .ret ?_
    refine ⟨_, .r2 rfl (.cell tyR33 rfl .z) (.tmp rfl), ?_⟩
    refine ⟨_, .cons (.s .z) (.cons (.s (.s .z)) (.cons (.s (.s (.s .z))) (.nil))), ?_⟩
    rw [if_neg hc8, show s.e = 0 by omega]; exact ⟨rfl, rfl⟩
theorem mkMac_boxes (a : Alg) (e : Int) (k : Tag) (m : List UInt8) : (mkMac a e k m).2.1.Boxes = a.Boxes := by
  unfold mkMac algMac; split
  · rfl
  · split
    · rfl
    · split
      · rfl
      · split <;> rfl
theorem Mac_mk (w : Value) (x : MkU) (k : Tag) (m : List UInt8) (hl : x.a.Macs.length ≤ 1000000) : FunH gl Tryd.prog 54 [mp w, .v k, .v m] [.usr w x] (fun r Hs => ∃ x' : MkU, Hs = [.usr w x'] ∧ r = .v (mkMac x.a x.e k m).1 ∧ x'.a = (mkMac x.a x.e k m).2.1 ∧ x'.e = (mkMac x.a x.e k m).2.2) :=
  FunH.mk (post := fun r x' => r = .v (mkMac x.a x.e k m).1 ∧ x'.a = (mkMac x.a x.e k m).2.1 ∧ x'.e = (mkMac x.a x.e k m).2.2)
    ((Mac_raw w x.a x.e x.um x.ub (gsB x.ub x.a) k m hl).mono fun r Hs ⟨um', h1, h2⟩ => ⟨⟨_, _, um', x.ub⟩, by rw [h2]; unfold MkU.bs gsB; rw [mkMac_boxes], h1, rfl, rfl⟩)
theorem Done_mk (w : Value) (x : MkU) : FunH gl Tryd.prog 52 [mp w] [.usr w x] (fun r Hs => ∃ x' : MkU, Hs = [.usr w x'] ∧ r = .t2 (.v (if x.e ≠ 0 then default else rawAlg x.a x.um x.ub)) (.v x.e) ∧ x' = x) :=
  FunH.mk (post := fun r x' => r = .t2 (.v (if x.e ≠ 0 then default else rawAlg x.a x.um x.ub)) (.v x.e) ∧ x' = x)
    ((Done_raw w (rawMk x.a x.e x.um x.ub) (gsM x.um x.a) (gsB x.ub x.a)).mono fun r Hs ⟨h1, h2⟩ => ⟨x, h2, h1, rfl⟩)
theorem mkDoneB {P : Program} {C : Ctx} {N : Nat} {σ : AEnv} {H : AHeap} {ops : Array Oper} {Q : Exit → AEnv → AHeap → Prop} {os : List Oper} (hC : Ctx.Ok C) (t : Nat) {w : Value} {x : MkU} {F : Bool × Blk → AHeap} (ht : lookA σ t = some (.v (if x.e ≠ 0 then default else rawAlg x.a x.um x.ub))) (hH : Hole H (true, .usr w x) F)
    (k : wpB P C N ops Q os ((t, .v (if x.e ≠ 0 then default else x.a)) :: σ) (F (true, .fz w .any))) : wpB P C N ops Q os σ H := fun ρ I L hs => by
  obtain ⟨i, X, h1, h2, h3⟩ := hH.get hs.heap
  refine .freeze i h1 (frz_ok hC h2) fun J hle hp => k ρ J _ ⟨fun s b hb => ?_, h3 J _ [] hle ⟨⟨rfl, trivial⟩, by simp⟩, hs.im0.trans hle⟩
  obtain ⟨L0, rfl, X0, R0, rfl, g0, X1, R1, rfl, g1, X2, R2, rfl, g2, g3⟩ := h2.1
  have f1 := gs_frz g1 hle (fun p hq => hp p (by simp [hq]))
  have f2 := gs_frz g2 hle (fun p hq => hp p (by simp [hq]))
  rw [lookA_cons] at hb
  by_cases e : t = s
  · subst e; simp only [if_true] at hb; cases hb
    obtain ⟨u, h4, h5⟩ := hs.env t _ ht
    refine ⟨u, h4, ?_⟩
    by_cases he : x.e ≠ 0
    · rw [if_pos he] at h5 ⊢
      exact rawAlg_to default _ _ J u (h5.mono hle) ⟨_, ⟨_, rfl, [], Sl.nil J _, rfl⟩, rfl⟩ ⟨_, ⟨_, rfl, [], Sl.nil J _, rfl⟩, rfl⟩
    · rw [if_neg he] at h5 ⊢
      exact rawAlg_to x.a _ _ J u (h5.mono hle) f1 f2
  · rw [if_neg e] at hb
    obtain ⟨u, h4, h5⟩ := hs.env s b hb
    exact ⟨u, h4, h5.mono hle⟩
end Go.Proofs.YtkjpkdpnlioffaaDoor
set_option linter.unusedVariables false
namespace Go.Fl
open Go.RowKit
theorem run_callYield {P : Program} {l : Nat} {a : Act} {w : World} {o : Oper} {F : Operand} {args : Array Operand} {tys : Array TypeId} (ho : o.op = .call ⟨.value F, args, tys⟩)
    (hF : a.eval F = .func (.yield l) #[] #[]) {vs : List Value} (hv : args.toList.map a.eval = vs) : (execOp a.eval o).run P w = (Instr.yield l vs.toArray).run P w := by
  subst hv
  have hargs : args.map a.eval = (args.toList.map a.eval).toArray := by cases args; simp
  simp [execOp, ho, resolve, Deferred.ofValue, hF, invoke, callFunc, ← hargs]
def YieldM (P : Program) (l : Nat) (args : Array Value) (I : Im) (L : Lh) (post : Value → Im → Lh → Prop) : Prop :=
  ∀ w, Mem I L w → ∃ f tmps assign body, (Instr.yield l args).run P w = .ok (.round l f tmps assign body) w ∧ RoundIn Fence.wide 0 P l f tmps assign body w fun e w' => ∃ v J L', e = .returned v ∧ Chg (L.flatten.map Prod.fst) w w' ∧ Le I J ∧ NewIm w.heap.size I J ∧ Mem J L' w' ∧
    (∀ p ∈ L'.flatten, w.heap.size ≤ p.1 ∨ p.1 ∈ L.flatten.map Prod.fst) ∧ post v J L'
theorem St.afterM {C : Ctx} {I J : Im} {L : Lh} {w w' : World} {i : Nat} {c c' : List (Nat × Obj)} (hs : St C I L w) (hc : L[i]? = some c) (hch : Chg (c.map Prod.fst) w w') (hle : Le I J) (hn : NewIm w.heap.size I J) (hm' : Mem J [c'] w')
    (hown : ∀ p ∈ c', w.heap.size ≤ p.1 ∨ p.1 ∈ c.map Prod.fst) : St C J (L.set i c') w' := by
  have hm := hs.mem
  have hsplit := fun c' => split_at L i c hc c'
  have hlt : ∀ p ∈ L.flatten, p.1 < w.heap.size := fun p hp => lt_of_get (hm.loc p hp)
  have hnd := hm.nodup
  rw [(hsplit c').1] at hnd
  have hoth : ∀ p, p ∈ (L.take i).flatten ∨ p ∈ (L.drop (i + 1)).flatten → p ∈ L.flatten ∧ p.1 ∉ c.map Prod.fst := by
    intro p hp
    rw [(hsplit c').1]
    simp only [List.map_append, List.nodup_append] at hnd
    rcases hp with hp | hp
    · exact ⟨by simp [hp], fun hx => hnd.2.2 p.1 (List.mem_map_of_mem hp) p.1 (by simp only [List.mem_append]; exact .inl hx) rfl⟩
    · exact ⟨by simp [hp], fun hx => hnd.2.1.2.2 p.1 hx p.1 (List.mem_map_of_mem hp) rfl⟩
  have hcas : ∀ p ∈ (L.set i c').flatten, p ∈ c' ∨ (p ∈ (L.take i).flatten ∨ p ∈ (L.drop (i + 1)).flatten) := by
    intro p hp
    rw [(hsplit c').2] at hp
    simp only [List.mem_append] at hp
    rcases hp with hp | hp | hp
    · exact .inr (.inl hp)
    · exact .inl hp
    · exact .inr (.inr hp)
  have hcM : ∀ k ∈ c.map Prod.fst, k < C.w0.heap.size → k ∈ C.M := by
    intro k hk hlt0
    obtain ⟨p, hp, rfl⟩ := List.mem_map.1 hk
    rcases hs.own p (mem_chunk hc hp) with h1 | h1
    · omega
    · exact h1
  have hchg : Chg C.M C.w0 w' := by
    refine ⟨hch.os.trans hs.chg.os, hch.tape.trans hs.chg.tape, hch.output.trans hs.chg.output, Nat.le_trans hs.chg.size hch.size, fun k hk hkm => ?_⟩
    rw [hch.block k (Nat.lt_of_lt_of_le hk hs.chg.size) (fun hx => hkm (hcM k hx hk))]
    exact hs.chg.block k hk hkm
  refine ⟨⟨hm'.im, fun p hp => ?_, fun p hp => ?_, ?_⟩, hchg, fun p hp => ?_, hs.im0.trans hle, fun b h0 h1 => ?_⟩
  · rcases hcas p hp with h1 | h1
    · exact hm'.loc p (by simpa using h1)
    · obtain ⟨h2, h3⟩ := hoth p h1
      exact (hch.block p.1 (hlt p h2) h3).trans (hm.loc p h2)
  · rcases hcas p hp with h1 | h1
    · exact hm'.sep p (by simpa using h1)
    · obtain ⟨h2, h3⟩ := hoth p h1
      cases hj : J p.1 with
      | none => rfl
      | some o => exact absurd (hn p.1 (hm.sep p h2) (by simp [hj])) (by have := hlt p h2; omega)
  · rw [(hsplit c').2]
    have hc'nd := hm'.nodup
    simp only [List.map_append, List.nodup_append] at hnd ⊢
    refine ⟨hnd.1, ⟨by simpa using hc'nd, hnd.2.1.2.1, ?_⟩, ?_⟩
    · rintro x hx y hy rfl
      obtain ⟨p, hp, rfl⟩ := List.mem_map.1 hx
      obtain ⟨q, hq, hqe⟩ := List.mem_map.1 hy
      obtain ⟨h2, h3⟩ := hoth q (.inr hq)
      rcases hown p hp with h4 | h4
      · have := hlt q h2; omega
      · exact h3 (hqe ▸ h4)
    · rintro x hx y hy rfl
      obtain ⟨q, hq, rfl⟩ := List.mem_map.1 hx
      obtain ⟨h2, h3⟩ := hoth q (.inl hq)
      simp only [List.mem_append] at hy
      rcases hy with hy | hy
      · obtain ⟨p, hp, hpe⟩ := List.mem_map.1 hy
        rcases hown p hp with h4 | h4
        · have := hlt q h2; omega
        · exact h3 (hpe ▸ h4)
      · exact hnd.2.2 q.1 hx q.1 (by simp only [List.mem_append]; exact .inr hy) rfl
  · rcases hcas p hp with h1 | h1
    · rcases hown p h1 with h2 | h2
      · exact .inl (Nat.le_trans hs.chg.size h2)
      · obtain ⟨q, hq, hqe⟩ := List.mem_map.1 h2
        rw [← hqe]
        exact hs.own q (mem_chunk hc hq)
    · exact hs.own p (hoth p h1).1
  · cases hi : I b with
    | none => exact Nat.le_trans hs.chg.size (hn b hi h1)
    | some o => exact hs.new b h0 (by simp [hi])
theorem Mem.chunk {I : Im} {L : Lh} {w : World} {i : Nat} {c : List (Nat × Obj)} (hm : Mem I L w) (hc : L[i]? = some c) : Mem I [c] w :=
  ⟨hm.im, fun p hp => hm.loc p (mem_chunk hc (by simpa using hp)), fun p hp => hm.sep p (mem_chunk hc (by simpa using hp)), by simpa using nodup_chunk hm.nodup hc⟩
section
variable {P : Program} {C : Ctx} {N : Nat} {ρ : Env} {I : Im} {L : Lh} {d : Option Nat} {F : Operand} {args : Array Operand} {tys : Array TypeId} {ty : TypeId} {ps : String} {af : Array Edge} {g : Option (Nat × Bool)} {vs : List Value}
theorem OpS.yieldM {l : Nat} {post : Value → Im → Lh → Prop} {K : Value → Im → Lh → Prop} (i : Nat) {c : List (Nat × Obj)} (hc : L[i]? = some c) (hF : ev ρ F = some (.func (.yield l) #[] #[])) (hv : evL ρ args.toList = some vs)
    (h : YieldM P l vs.toArray I [c] post) (k : ∀ v J c' (w : World), Le I J → post v J [c'] → (∀ p ∈ c', w.heap.size ≤ p.1 ∨ p.1 ∈ c.map Prod.fst) → C.w0.heap.size ≤ w.heap.size → K v J (L.set i c')) (hshape : ∀ v J L', post v J L' → ∃ c', L' = [c']) :
    OpS P C N ⟨d, .call ⟨.value F, args, tys⟩, ty, ps, af, g⟩ ρ I L K := fun a w ha hs => by
  rw [run_callYield rfl (ha.ev hF) (ha.evL hv)]
  obtain ⟨f, tmps, as_, body, hy, hR⟩ := h w (hs.mem.chunk hc)
  rw [hy]
  refine RoundIn.mono hR ?_
  rintro e w' ⟨v, J, L', rfl, hch, hle, hn, hm', hown, hp⟩
  obtain ⟨c', rfl⟩ := hshape v J L' hp
  have hch' : Chg (c.map Prod.fst) w w' := by simpa using hch
  have hown' : ∀ p ∈ c', w.heap.size ≤ p.1 ∨ p.1 ∈ c.map Prod.fst := fun p hq => by simpa using hown p (by simpa using hq)
  exact ⟨v, rfl, J, L.set i c', hs.afterM hc hch' hle hn hm' hown', k v J c' w hle hp hown' hs.chg.size⟩
end
abbrev recs (D l : Nat) (r : Loop) : List (Nat × Obj) := [(D, .deferred (some [])), (l, .loop r)]
theorem Chg.putObj {M : List Nat} {w0 w : World} {l : Nat} (h : Chg M w0 w) (hl : l ∈ M ∨ w0.heap.size ≤ l) (o : Obj) : Chg M w0 (w.putObj l o) :=
  ⟨h.os, h.tape, h.output, by rw [World.putObj_size]; exact h.size, fun k hk hm => by
    have hkl : k ≠ l := fun e => by
      subst e
      rcases hl with hl | hl
      · exact hm hl
      · omega
    rw [World.putObj_heap_other hkl]; exact h.block k hk hm⟩
theorem Chg.alloc {M : List Nat} {w0 w : World} (h : Chg M w0 w) (o : Obj) : Chg M w0 (w.alloc o) :=
  ⟨h.os, h.tape, h.output, by have := h.size; simp; omega, fun k hk hm => by
    have h1 : k < w.heap.size := Nat.lt_of_lt_of_le hk h.size
    rw [heap_alloc_old w _ h1]; exact h.block k hk hm⟩
theorem Mem.turn {I : Im} {Y : List (Nat × Obj)} {D l : Nat} {r r' : Loop} {w : World} (hm : Mem I [Y ++ recs D l r] w) : Mem I [Y ++ recs D l r'] (w.putObj l (.loop r')) := by
  have hnd := hm.nodup
  have hl : w.heap[l]? = some (.loop r) := hm.loc (l, .loop r) (by simp)
  have hlt := lt_of_get hl
  have hne : ∀ p ∈ Y, p.1 ≠ l := fun p hp e => by
    simp only [List.flatten_cons, List.flatten_nil, List.append_nil, List.map_append, List.nodup_append] at hnd
    exact hnd.2.2 p.1 (List.mem_map_of_mem hp) l (by simp) e
  have hDl : D ≠ l := fun e => by
    simp only [List.flatten_cons, List.flatten_nil, List.append_nil, List.map_append, List.nodup_append] at hnd
    simp [e] at hnd
  refine ⟨fun b o hb => ?_, fun p hp => ?_, fun p hp => ?_, ?_⟩
  · have hbl : b ≠ l := fun e => by
      have := hm.sep (l, .loop r) (by simp)
      rw [e] at hb; rw [hb] at this; cases this
    rw [World.putObj_heap_other hbl]; exact hm.im b o hb
  · simp only [List.flatten_cons, List.flatten_nil, List.append_nil, List.mem_append, List.mem_cons, List.not_mem_nil, or_false] at hp
    rcases hp with hp | rfl | rfl
    · rw [World.putObj_heap_other (hne p hp)]; exact hm.loc p (by simp [hp])
    · rw [World.putObj_heap_other hDl]; exact hm.loc (D, .deferred (some [])) (by simp)
    · exact World.putObj_heap_same hlt
  · simp only [List.flatten_cons, List.flatten_nil, List.append_nil, List.mem_append, List.mem_cons, List.not_mem_nil, or_false] at hp
    rcases hp with hp | rfl | rfl
    · exact hm.sep p (by simp [hp])
    · exact hm.sep (D, .deferred (some [])) (by simp)
    · exact hm.sep (l, .loop r) (by simp)
  · simpa using hnd
theorem Mem.regroup {I : Im} {L M : Lh} {w : World} (hm : Mem I L w) (e : M.flatten = L.flatten) : Mem I M w := ⟨hm.im, by rw [e]; exact hm.loc, by rw [e]; exact hm.sep, by rw [e]; exact hm.nodup⟩
theorem Mem.left {I : Im} {Y Z : List (Nat × Obj)} {w : World} (hm : Mem I [Y ++ Z] w) : Mem I [Y] w :=
  ⟨hm.im, fun p hp => hm.loc p (by simp at hp ⊢; exact .inl hp), fun p hp => hm.sep p (by simp at hp ⊢; exact .inl hp), by
    have := hm.nodup
    simp only [List.flatten_cons, List.flatten_nil, List.append_nil, List.map_append, List.nodup_append] at this ⊢
    exact this.1⟩
theorem St.anew {I : Im} {L : Lh} {w : World} (l : Option Nat) (hm : Mem I L w) : St ⟨w, L.flatten.map Prod.fst, I, l⟩ I L w :=
  ⟨hm, Chg.refl _ _, fun p hp => .inr (List.mem_map_of_mem hp), Le.refl _, fun b h0 h1 => absurd h0 h1⟩
def paramsEnv (ps : List Nat) (vs : List Value) (ρ : Env) : Env := (ps.zip vs).foldl (fun ρ p => p :: ρ) ρ
theorem Fits.params {N : Nat} : ∀ {ps : List Nat} {vs : List Value} {ρ : Env} {t : Array Value}, Fits N ρ ⟨t, []⟩ → (∀ p ∈ ps, p < N) → Fits N (paramsEnv ps vs ρ) ⟨(ps.zip vs).foldl (fun t (p : Nat × Value) => t.setIfInBounds p.1 p.2) t, []⟩
  | [], vs, ρ, t, h, _ => by simpa [paramsEnv] using h
  | p :: ps, [], ρ, t, h, _ => by simpa [paramsEnv] using h
  | p :: ps, v :: vs, ρ, t, h, hp => by
    have h1 := h.put (d := p) (hp p List.mem_cons_self) v
    have h2 := Fits.params (ps := ps) (vs := vs) (ρ := (p, v) :: ρ) (t := t.setIfInBounds p v) (by simpa [Act.put] using h1) (fun q hq => hp q (List.mem_cons_of_mem _ hq))
    simpa [paramsEnv] using h2
theorem YieldM.round {P : Program} {N D l fn : Nat} {ps : Array Tmp} {assign body : Code} {tm : Array Value} {ρ : Env} {I' : Im} {Y : List (Nat × Obj)} {vs : List Value} {J' : Im → List (Nat × Obj) → Prop} {Jx : Nat → Im → List (Nat × Obj) → Prop}
    (hps : ∀ p ∈ ps.toList, p < N) (hsz : vs.length = ps.size) (ha : Fits N ρ ⟨tm, []⟩) (rec_ : LoopState → Option Code → Loop) (hrec : rec_ = fun st pe => { state := st, pending := pe, fn := fn, tmps := tm, params := ps, assign := assign, body := body, defers := D })
    (round : ∀ (w1 : World), Mem I' [Y] w1 → ∃ L1, L1.flatten = Y ∧ wpS P ⟨w1, L1.flatten.map Prod.fst, I', some l⟩ N assign (fun e ρ2 I2 L2 => e = .normal ∧ ∀ w3, Mem I2 L2 w3 →
      wpS P ⟨w3, L2.flatten.map Prod.fst, I2, some l⟩ N body (fun e' ρ3 I3 L3 => (e' = .normal ∧ J' I3 L3.flatten) ∨ ∃ id, e' = .exit id ∧ Jx id I3 L3.flatten) ρ2 I2 L2) (paramsEnv ps.toList vs ρ) I' L1) :
    YieldM P l vs.toArray I' [Y ++ recs D l (rec_ .ready none)] (fun v I3 L' => ∃ Y3, (v = .bool true ∧ J' I3 Y3 ∧ L' = [Y3 ++ recs D l (rec_ .ready none)]) ∨ ∃ id, v = .bool false ∧ Jx id I3 Y3 ∧ L' = [Y3 ++ recs D l (rec_ .done (some (.exit id)))]) := by
  intro w1 hm1
  have hl1 : w1.heap[l]? = some (.loop (rec_ .ready none)) := hm1.loc (l, .loop (rec_ .ready none)) (by simp)
  have hD1 : w1.heap[D]? = some (.deferred (some [])) := hm1.loc (D, .deferred (some [])) (by simp)
  have hlt1 := lt_of_get hl1
  have hDt1 := lt_of_get hD1
  have hnd1 := hm1.nodup
  simp only [List.flatten_cons, List.flatten_nil, List.append_nil, List.map_append, List.nodup_append] at hnd1
  have hDl : D ≠ l := fun e => by have := hnd1.2.1; simp [e] at this
  have hYl : ∀ p ∈ Y, p.1 ≠ l ∧ p.1 ≠ D := fun p hp => ⟨fun e => hnd1.2.2 p.1 (List.mem_map_of_mem hp) l (by simp) e, fun e => hnd1.2.2 p.1 (List.mem_map_of_mem hp) D (by simp) e⟩
  have hIl : I' l = none := hm1.sep (l, .loop (rec_ .ready none)) (by simp)
  have hID : I' D = none := hm1.sep (D, .deferred (some [])) (by simp)
  have hy := run_yield (P := P) (args := vs.toArray) hl1 (by rw [hrec]; simpa using hsz)
  rw [hrec] at hy
  refine ⟨fn, _, assign, body, hy, roundIn_of_wpIn trivial ?_⟩
  obtain ⟨L1, rfl, hw1⟩ := round w1 hm1.left
  have hst1 : St ⟨w1, L1.flatten.map Prod.fst, I', some l⟩ I' L1 w1 := St.anew (some l) (hm1.left.regroup (by simp))
  have hfit1 : Fits N (paramsEnv ps.toList vs ρ) ⟨(ps.zip vs.toArray).foldl (fun t (p, v) => t.setIfInBounds p v) tm, []⟩ := by
    have h1 := Fits.params (ps := ps.toList) (vs := vs) ha hps
    have e : (ps.zip vs.toArray).foldl (fun t (p, v) => t.setIfInBounds p v) tm = (ps.toList.zip vs).foldl (fun t (p : Nat × Value) => t.setIfInBounds p.1 p.2) tm := by
      rw [← Array.foldl_toList, Array.toList_zip]
    rw [e]; exact h1
  refine wpIn_mono (hw1 _ w1 hfit1 hst1) ?_
  rintro e a2 w2 ⟨ρ2, I2, L2, hf2, hs2, rfl, hbody⟩
  -- the record is still ags it was
  have hnotl2 : ∀ p ∈ L2.flatten, p.1 ≠ l ∧ p.1 ≠ D := fun p hp => by
    rcases hs2.own p hp with h | h
    · have h' : w1.heap.size ≤ p.1 := h
      exact ⟨by omega, by omega⟩
    · obtain ⟨q, hq, hqe⟩ := List.mem_map.1 h
      rw [← hqe]; exact hYl q hq
  have hl2 : w2.heap[l]? = some (.loop (rec_ .ready none)) := (hs2.chg.block l hlt1 (fun hx => by obtain ⟨q, hq, hqe⟩ := List.mem_map.1 hx; exact (hYl q hq).1 hqe)).trans hl1
  have hD2 : w2.heap[D]? = some (.deferred (some [])) := (hs2.chg.block D hDt1 (fun hx => by obtain ⟨q, hq, hqe⟩ := List.mem_map.1 hx; exact (hYl q hq).2 hqe)).trans hD1
  have hI2l : I2 l = none := by
    cases h : I2 l with
    | none => rfl
    | some o => have h' : w1.heap.size ≤ l := hs2.new l hIl (by simp [h]); omega
  have hI2D : I2 D = none := by
    cases h : I2 D with
    | none => rfl
    | some o => have h' : w1.heap.size ≤ D := hs2.new D hID (by simp [h]); omega
  have hbr := run_beginRound (P := P) hl2 (by rw [hrec])
  refine ⟨_, hbr, ?_⟩
  have hm3 : Mem I2 (L2 : Lh) (w2.putObj l (.loop { rec_ .ready none with state := .busy })) := by
    refine ⟨fun b o hb => ?_, fun p hp => ?_, hs2.mem.sep, hs2.mem.nodup⟩
    · rw [World.putObj_heap_other (fun e => by rw [e, hI2l] at hb; cases hb)]; exact hs2.mem.im b o hb
    · rw [World.putObj_heap_other (hnotl2 p hp).1]; exact hs2.mem.loc p hp
  have hst3 := St.anew (some l) hm3
  have hl3 : (w2.putObj l (.loop { rec_ .ready none with state := .busy })).heap[l]? = some (.loop { rec_ .ready none with state := .busy }) := World.putObj_heap_same (lt_of_get hl2)
  have hD3 : (w2.putObj l (.loop { rec_ .ready none with state := .busy })).heap[D]? = some (.deferred (some [])) := (World.putObj_heap_other hDl).trans hD2
  refine wpIn_mono (hbody _ hm3 a2 _ hf2 hst3) ?_
  rintro e a4 w4 ⟨ρ3, I3, L3, hf4, hs4, hq⟩
  have hc4 := hs4.chg
  have hlt3 : l < (w2.putObj l (.loop { rec_ .ready none with state := .busy })).heap.size := lt_of_get hl3
  have hDt3 : D < (w2.putObj l (.loop { rec_ .ready none with state := .busy })).heap.size := lt_of_get hD3
  have hl4 : w4.heap[l]? = some (.loop { rec_ .ready none with state := .busy }) := (hc4.block l hlt3 (fun hx => by obtain ⟨q, hq, hqe⟩ := List.mem_map.1 hx; exact (hnotl2 q hq).1 hqe)).trans hl3
  have hD4 : w4.heap[D]? = some (.deferred (some [])) := (hc4.block D hDt3 (fun hx => by obtain ⟨q, hq, hqe⟩ := List.mem_map.1 hx; exact (hnotl2 q hq).2 hqe)).trans hD3
  have hsz13 : w1.heap.size ≤ (w2.putObj l (.loop { rec_ .ready none with state := .busy })).heap.size := by rw [World.putObj_size]; exact hs2.chg.size
  have hnotl3 : ∀ p ∈ L3.flatten, p.1 ≠ l ∧ p.1 ≠ D := fun p hp => by
    rcases hs4.own p hp with h | h
    · have h' : (w2.putObj l (.loop { rec_ .ready none with state := .busy })).heap.size ≤ p.1 := h
      exact ⟨by omega, by omega⟩
    · obtain ⟨q, hq, hqe⟩ := List.mem_map.1 h
      rw [← hqe]; exact hnotl2 q hq
  have hI3l : I3 l = none := by
    cases h : I3 l with
    | none => rfl
    | some o => have h' : (w2.putObj l (.loop { rec_ .ready none with state := .busy })).heap.size ≤ l := hs4.new l hI2l (by simp [h]); omega
  have hI3D : I3 D = none := by
    cases h : I3 D with
    | none => rfl
    | some o => have h' : (w2.putObj l (.loop { rec_ .ready none with state := .busy })).heap.size ≤ D := hs4.new D hI2D (by simp [h]); omega
  have hm4 : Mem I3 [L3.flatten ++ recs D l { rec_ .ready none with state := .busy }] w4 := by
    refine ⟨hs4.mem.im, fun p hp => ?_, fun p hp => ?_, ?_⟩
    · simp only [List.flatten_cons, List.flatten_nil, List.append_nil, List.mem_append, List.mem_cons, List.not_mem_nil, or_false] at hp
      rcases hp with hp | rfl | rfl
      · exact hs4.mem.loc p hp
      · exact hD4
      · exact hl4
    · simp only [List.flatten_cons, List.flatten_nil, List.append_nil, List.mem_append, List.mem_cons, List.not_mem_nil, or_false] at hp
      rcases hp with hp | rfl | rfl
      · exact hs4.mem.sep p hp
      · exact hI3D
      · exact hI3l
    · simp only [List.flatten_cons, List.flatten_nil, List.append_nil, List.map_append, List.map_cons, List.map_nil]
      refine List.nodup_append.2 ⟨hs4.mem.nodup, by simp [hDl], ?_⟩
      rintro x hx y hy rfl
      obtain ⟨q, hq, hqe⟩ := List.mem_map.1 hx
      simp only [List.mem_cons, List.not_mem_nil, or_false] at hy
      rcases hy with hy | hy
      · exact (hnotl3 q hq).2 (hqe.trans hy)
      · exact (hnotl3 q hq).1 (hqe.trans hy)
  have hZ : ∀ k, k ∈ L1.flatten.map Prod.fst → k ∈ ([L1.flatten ++ recs D l (rec_ .ready none)] : Lh).flatten.map Prod.fst := fun k hk => by simp at hk ⊢; exact .inl hk
  have hlZ : l ∈ ([L1.flatten ++ recs D l (rec_ .ready none)] : Lh).flatten.map Prod.fst := by simp
  have hchg14 : Chg (([L1.flatten ++ recs D l (rec_ .ready none)] : Lh).flatten.map Prod.fst) w1 w4 := by
    have h12 : Chg (([L1.flatten ++ recs D l (rec_ .ready none)] : Lh).flatten.map Prod.fst) w1 w2 := hs2.chg.mono (fun k hk _ => hZ k hk)
    have h13 := h12.putObj (.inl hlZ) (.loop { rec_ .ready none with state := .busy })
    refine ⟨hc4.os.trans h13.os, hc4.tape.trans h13.tape, hc4.output.trans h13.output, Nat.le_trans h13.size hc4.size, fun k hk hm => ?_⟩
    rw [hc4.block k (Nat.lt_of_lt_of_le hk h13.size) (fun hx => ?_)]
    · exact h13.block k hk hm
    · obtain ⟨q, hq, hqe⟩ := List.mem_map.1 hx
      rcases hs2.own q hq with h | h
      · have h' : w1.heap.size ≤ q.1 := h
        omega
      · exact hm (hZ k (hqe ▸ h))
  have hown4 : ∀ p ∈ L3.flatten, w1.heap.size ≤ p.1 ∨ p.1 ∈ ([L1.flatten ++ recs D l (rec_ .ready none)] : Lh).flatten.map Prod.fst := fun p hp => by
    rcases hs4.own p hp with h | h
    · exact .inl (Nat.le_trans hsz13 h)
    · obtain ⟨q, hq, hqe⟩ := List.mem_map.1 h
      rw [← hqe]
      rcases hs2.own q hq with h | h
      · exact .inl h
      · exact .inr (hZ _ h)
  have hnew4 : NewIm w1.heap.size I' I3 := fun b h0 h1 => by
    cases h : I2 b with
    | none => exact Nat.le_trans hsz13 (hs4.new b h h1)
    | some o => exact hs2.new b h0 (by simp [h])
  have hle4 : Le I' I3 := hs2.im0.trans hs4.im0
  have fin : ∀ jump : Option Code, (Instr.endRound l jump).run P w4 = .ok (.bool jump.isNone) (w4.putObj l (.loop (rec_ (if jump.isNone then .ready else .done) jump))) ∧
      Mem I3 [L3.flatten ++ recs D l (rec_ (if jump.isNone then .ready else .done) jump)] (w4.putObj l (.loop (rec_ (if jump.isNone then .ready else .done) jump))) := fun jump => by
    have h := run_endRound (P := P) jump hl4
    rw [hrec] at h ⊢
    exact ⟨h, by have := hm4.turn (r' := rec_ (if jump.isNone then .ready else .done) jump); rw [hrec] at this; exact this⟩
  have hown5 : ∀ (r : Loop), ∀ p ∈ ([L3.flatten ++ recs D l r] : Lh).flatten, w1.heap.size ≤ p.1 ∨ p.1 ∈ ([L1.flatten ++ recs D l (rec_ .ready none)] : Lh).flatten.map Prod.fst := fun r p hp => by
    simp only [List.flatten_cons, List.flatten_nil, List.append_nil, List.mem_append, List.mem_cons, List.not_mem_nil, or_false] at hp
    rcases hp with hp | rfl | rfl
    · exact hown4 p hp
    · exact .inr (by simp)
    · exact .inr (by simp)
  rcases hq with ⟨rfl, hJ⟩ | ⟨id, rfl, hJ⟩
  · obtain ⟨h1, h2⟩ := fin none
    exact ⟨_, _, h1, _, I3, _, rfl, hchg14.putObj (.inl hlZ) _, hle4, hnew4, h2, hown5 _, L3.flatten, .inl ⟨rfl, hJ, rfl⟩⟩
  · obtain ⟨h1, h2⟩ := fin (some (.exit id))
    exact ⟨_, _, h1, _, I3, _, rfl, hchg14.putObj (.inl hlZ) _, hle4, hnew4, h2, hown5 _, L3.flatten, .inr ⟨id, rfl, hJ, rfl⟩⟩
end Go.Fl
set_option linter.unusedVariables false
namespace Go.Fl
open Go.RowKit
abbrev bare (a : Act) : Act := { a with defers := [] }
def Marks (C : Ctx) (I : Im) (L : Lh) (w : World) (ds : List Deferred) : Prop :=
  ds = [] ∨ ∃ D, ds = [{ target := .collected D, args := #[] }] ∧ w.heap[D]? = some (.deferred (some [])) ∧ C.w0.heap.size ≤ D ∧ I D = none ∧ ∀ p ∈ L.flatten, p.1 ≠ D
def liftD (C : Ctx) (N : Nat) (Q : Exit → Env → Im → Lh → Prop) : Exit → Act → World → Prop :=
  fun e a w => ∃ ρ I L, Fits N ρ (bare a) ∧ Marks C I L w a.defers ∧ St C I L w ∧ Q e ρ I L
def wpC (P : Program) (C : Ctx) (N : Nat) (c : Code) (Q : Exit → Env → Im → Lh → Prop) (ρ : Env) (I : Im) (L : Lh) : Prop :=
  ∀ a w, Fits N ρ a → St C I L w → c.wpIn C.fen 0 P (liftD C N Q) a w
def wpD (P : Program) (C : Ctx) (N : Nat) (c : Code) (Q : Exit → Env → Im → Lh → Prop) (ρ : Env) (I : Im) (L : Lh) : Prop :=
  ∀ a w, Fits N ρ (bare a) → Marks C I L w a.defers → St C I L w → c.wpIn C.fen 0 P (liftD C N Q) a w
theorem Fits.bare {N : Nat} {ρ : Env} {a : Act} (h : Fits N ρ a) : Fits N ρ (bare a) := ⟨rfl, h.size, h.tmp⟩
section
variable {P : Program} {C : Ctx} {N : Nat} {Q : Exit → Env → Im → Lh → Prop} {ρ : Env} {I : Im} {L : Lh}
theorem wpC.mono {Q' : Exit → Env → Im → Lh → Prop} {c : Code} (h : wpC P C N c Q ρ I L) (hq : ∀ e ρ I L, Q e ρ I L → Q' e ρ I L) : wpC P C N c Q' ρ I L :=
  fun a w ha hw => wpIn_mono (h a w ha hw) fun _ _ _ ⟨ρ, I, L, h1, h2, h3, h4⟩ => ⟨ρ, I, L, h1, h2, h3, hq _ _ _ _ h4⟩
theorem wpC.seqS {x y : Code} (h : wpS P C N x (thenQ (wpC P C N y Q) Q) ρ I L) : wpC P C N (.seq x y) Q ρ I L := fun a w ha hw => by
  refine wpIn_seq (wpIn_mono (h a w ha hw) fun e a w hq => ?_)
  obtain ⟨ρ, I, L, h1, h2, h3⟩ := hq
  cases e with
  | normal => exact h3 a w h1 h2
  | _ => exact ⟨ρ, I, L, h1.bare, .inl h1.defers, h2, h3⟩
theorem wpC.seqD {x y : Code} (h : wpC P C N x (thenQ (wpD P C N y Q) Q) ρ I L) : wpC P C N (.seq x y) Q ρ I L := fun a w ha hw => by
  refine wpIn_seq (wpIn_mono (h a w ha hw) fun e a w hq => ?_)
  obtain ⟨ρ, I, L, h1, h2, h3, h4⟩ := hq
  cases e with
  | normal => exact h4 a w h1 h2 h3
  | _ => exact ⟨ρ, I, L, h1, h2, h3, h4⟩
theorem wpC.block {id : Nat} {c : Code} (h : wpC P C N c (blockQ id Q) ρ I L) : wpC P C N (.block id c) Q ρ I L := fun a w ha hw => by
  refine wpIn_block (wpIn_mono (h a w ha hw) fun e a w hq => ?_)
  obtain ⟨ρ, I, L, h1, h2, h3, h4⟩ := hq
  cases e with
  | exit i =>
    by_cases hi : i = id
    · subst hi
      simp only [Exit.inBlock, if_true]
      exact ⟨ρ, I, L, h1, h2, h3, by simpa [blockQ] using h4⟩
    · have hb : Nat.beq i id = false := beq_ne hi
      simp only [Exit.inBlock, if_neg hi]
      exact ⟨ρ, I, L, h1, h2, h3, by simpa [blockQ, hb] using h4⟩
  | _ => exact ⟨ρ, I, L, h1, h2, h3, h4⟩
theorem wpD.seq {x y : Code} (h : wpD P C N x (thenQ (wpD P C N y Q) Q) ρ I L) : wpD P C N (.seq x y) Q ρ I L := fun a w ha hm hw => by
  refine wpIn_seq (wpIn_mono (h a w ha hm hw) fun e a w hq => ?_)
  obtain ⟨ρ, I, L, h1, h2, h3, h4⟩ := hq
  cases e with
  | normal => exact h4 a w h1 h2 h3
  | _ => exact ⟨ρ, I, L, h1, h2, h3, h4⟩
theorem wpD.ret (h : Q .ret ρ I L) : wpD P C N .ret Q ρ I L := fun a w ha hm hw => wpIn_ret ⟨ρ, I, L, ha, hm, hw, h⟩
def wpLD (P : Program) (C : Ctx) (N : Nat) (ops : Array Oper) (Q : Exit → Env → Im → Lh → Prop) (l : List Oper) (ρ : Env) (I : Im) (L : Lh) : Prop :=
  dstOk N l = true → ∀ a w, Fits N ρ (bare a) → Marks C I L w a.defers → St C I L w → wpListIn C.fen 0 P ops (liftD C N Q) l a w
theorem wpLD.nil {ops : Array Oper} (h : Q .normal ρ I L) : wpLD P C N ops Q [] ρ I L := fun _ a w ha hm hs => wpListIn_nil ⟨ρ, I, L, ha, hm, hs, h⟩
theorem wpLD.x {ops : Array Oper} {rest : List Oper} {d : Nat} {op : Op} {ty : TypeId} {ps : String} {af : Array Edge}
    (h : OpX P N ⟨some d, op, ty, ps, af, none⟩ ρ I L (fun v J X => wpLD P C N ops Q rest ((d, v) :: ρ) J (X ++ L))) :
    wpLD P C N ops Q (⟨some d, op, ty, ps, af, none⟩ :: rest) ρ I L := fun hd a w ha hm hs => by
  obtain ⟨hlt, hd'⟩ := dst_lt hd
  refine wpListIn_plain rfl fun K hK => Yld.wp ?_
  have h1 : Yld P ((execOp a.eval ⟨some d, op, ty, ps, af, none⟩).run P w) _ := h (bare a) w ha hs.mem
  refine h1.mono ?_
  rintro v w' ⟨J, X, hc, hle, hn, hm', hX, hk⟩
  refine hK _ _ (hk hd' _ _ (ha.put hlt v) ?_ (hs.step hc hle hn hm' hX))
  rcases hm with hm | ⟨D, h1, h2, h3, h4, h5⟩
  · exact .inl hm
  · have hDlt := lt_of_get h2
    refine .inr ⟨D, h1, (hc.block D hDlt (by simp)).trans h2, h3, ?_, fun p hp e => ?_⟩
    · cases hj : J D with
      | none => rfl
      | some o => exact absurd (hn D h4 (by simp [hj])) (by omega)
    · simp only [List.flatten_append, List.mem_append] at hp
      rcases hp with hp | hp
      · have := hX p hp; omega
      · exact h5 p hp e
theorem wpD.region {id : Nat} {l : List Oper} (hd : dstOk N l = true) (h : wpLD P C N l.toArray Q l ρ I L) : wpD P C N (.region id l.toArray false) Q ρ I L := fun a w ha hm hs =>
  wpIn_region_lit (h hd a w ha hm hs)
end
theorem YieldM.mono {P : Program} {l : Nat} {args : Array Value} {I : Im} {L : Lh} {post post' : Value → Im → Lh → Prop} (h : YieldM P l args I L post) (hp : ∀ v J L', Le I J → post v J L' → post' v J L') : YieldM P l args I L post' := fun w hm => by
  obtain ⟨f, t, as_, b, h1, h2⟩ := h w hm
  refine ⟨f, t, as_, b, h1, RoundIn.mono h2 ?_⟩
  rintro e w' ⟨v, J, L', a1, a2, a3, a4, a5, a6, a7⟩
  exact ⟨v, J, L', a1, a2, a3, a4, a5, a6, hp _ _ _ a3 a7⟩
theorem Mem.perm {I : Im} {L M : Lh} {w : World} (hm : Mem I L w) (e : M.flatten.Perm L.flatten) : Mem I M w :=
  ⟨hm.im, fun p hp => hm.loc p (e.mem_iff.1 hp), fun p hp => hm.sep p (e.mem_iff.1 hp), (e.map Prod.fst).nodup_iff.2 hm.nodup⟩
theorem YieldM.perm {P : Program} {l : Nat} {args : Array Value} {I : Im} {L M : Lh} {post : Value → Im → Lh → Prop} (h : YieldM P l args I M post) (e : M.flatten.Perm L.flatten) : YieldM P l args I L post := fun w hm => by
  obtain ⟨f, t, as_, b, h1, h2⟩ := h w (hm.perm e)
  have hk : ∀ k, k ∈ M.flatten.map Prod.fst ↔ k ∈ L.flatten.map Prod.fst := fun k => (e.map Prod.fst).mem_iff
  refine ⟨f, t, as_, b, h1, RoundIn.mono h2 ?_⟩
  rintro e' w' ⟨v, J, L', a1, a2, a3, a4, a5, a6, a7⟩
  exact ⟨v, J, L', a1, a2.mono (fun k hk' _ => (hk k).1 hk'), a3, a4, a5, fun p hp => (a6 p hp).imp id (hk _).1, a7⟩
abbrev Chunk := List (Nat × Obj)
theorem wpC.range {P : Program} {C : Ctx} {N : Nat} {Q : Exit → Env → Im → Lh → Prop} {ρ : Env} {I : Im} {L : Lh} {g : Operand} {ps : Array Tmp} {assign body : Code} {gf : Nat} {lb : Array Value} (vs : Nat → Im → List Value → Prop) (J : Nat → Im → Chunk → Prop) (xid : Nat) (Jx : Im → Chunk → Prop)
    (hrd : C.rd = none) (hg : ev ρ g = some (.func (.func gf) #[] lb)) (hok : CallOk P gf) (hps : ∀ p ∈ ps.toList, p < N) (hsz : ∀ k I us, vs k I us → us.length = ps.size)
    (hmono : ∀ k I1 I2 Y, Le I1 I2 → J k I1 Y → J k I2 Y) (hmonox : ∀ I1 I2 Y, Le I1 I2 → Jx I1 Y → Jx I2 Y) (h0 : J 0 I L.flatten)
    (round : ∀ l k I' Y us, Le I I' → J k I' Y → vs k I' us → ∃ L1 : Lh, L1.flatten.Perm Y ∧ ∀ w1, Mem I' L1 w1 → wpS P ⟨w1, L1.flatten.map Prod.fst, I', some l⟩ N assign (fun e ρ2 I2 L2 => e = .normal ∧ ∀ w3, Mem I2 L2 w3 →
      wpS P ⟨w3, L2.flatten.map Prod.fst, I2, some l⟩ N body (fun e' ρ3 I3 L3 => (e' = .normal ∧ J (k + 1) I3 L3.flatten) ∨ (e' = .exit xid ∧ Jx I3 L3.flatten)) ρ2 I2 L2) (paramsEnv ps.toList us ρ) I' L1)
    (iter : ∀ (l : Nat) (K : Nat → Im → Chunk → Prop) (Kx : Im → Chunk → Prop) (Z : Chunk), (∀ k I1 I2 Z, Le I1 I2 → K k I1 Z → K k I2 Z) → (∀ I1 I2 Z, Le I1 I2 → Kx I1 Z → Kx I2 Z) →
      (∀ k I' Z, Le I I' → K k I' Z → ∃ Y, J k I' Y) → K 0 I Z →
      (∀ k I' Z us, Le I I' → K k I' Z → vs k I' us → YieldM P l us.toArray I' [Z] (fun v I3 L' => ∃ Z3, L' = [Z3] ∧ ((v = .bool true ∧ K (k + 1) I3 Z3) ∨ (v = .bool false ∧ Kx I3 Z3)))) →
      FunM P gf (#[.func (.yield l) #[] #[]] ++ lb) I [Z] (fun v I3 L' => ∃ Z3, L' = [Z3] ∧ Kx I3 Z3))
    (done : ∀ I3 Y, Le I I3 → Jx I3 Y → ((∀ q ∈ L.flatten, C.w0.heap.size ≤ q.1) → ∀ p ∈ Y, C.w0.heap.size ≤ p.1) → ∃ L3 : Lh, L3.flatten.Perm Y ∧ Q (.exit xid) ρ I3 L3) :
    wpC P C N (.rangeFunc g ps assign body) Q ρ I L := fun a w ha hs => by
  obtain ⟨w0, M, I0, rd⟩ := C
  have hrd' : rd = none := hrd
  subst hrd'
  refine wpIn_rangeFunc ?_
  intro fn hfn
  obtain ⟨rec_, hrec⟩ : ∃ rec_ : LoopState → Option Code → Loop, rec_ = fun st pe => { state := st, pending := pe, fn := fn, tmps := a.tmps, params := ps, assign := assign, body := body, defers := w.heap.size } := ⟨_, rfl⟩
  obtain ⟨W1, hW1⟩ : ∃ W1, (w.alloc (.deferred (some []))).alloc (.loop (rec_ .ready none)) = W1 := ⟨_, rfl⟩
  have hsz1 : W1.heap.size = w.heap.size + 2 := by rw [← hW1]; simp
  have hL1 : W1.heap[w.heap.size + 1]? = some (.loop (rec_ .ready none)) := by
    rw [← hW1]; have := World.alloc_heap_new (w.alloc (.deferred (some []))) (.loop (rec_ .ready none)); rwa [World.size_alloc] at this
  have hK1 : W1.heap[w.heap.size]? = some (.deferred (some [])) := by
    rw [← hW1]; exact (heap_alloc_old _ _ (by simp)).trans (World.alloc_heap_new w _)
  have hold : ∀ b, b < w.heap.size → W1.heap[b]? = w.heap[b]? := fun b hb => by
    rw [← hW1]; exact (heap_alloc_old _ _ (by simp; omega)).trans (heap_alloc_old _ _ hb)
  have hI : ∀ b, w.heap.size ≤ b → I b = none := fun b hb => by
    cases h : I b with
    | none => rfl
    | some o => have := lt_of_get (hs.mem.im b o h); omega
  have hltL : ∀ p ∈ L.flatten, p.1 < w.heap.size := fun p hp => lt_of_get (hs.mem.loc p hp)
  have hm1 : Mem I [L.flatten ++ recs w.heap.size (w.heap.size + 1) (rec_ .ready none)] W1 := by
    refine ⟨fun b o hb => ?_, fun p hp => ?_, fun p hp => ?_, ?_⟩
    · rw [hold b (lt_of_get (hs.mem.im b o hb))]; exact hs.mem.im b o hb
    · simp only [List.flatten_cons, List.flatten_nil, List.append_nil, List.mem_append, List.mem_cons, List.not_mem_nil, or_false] at hp
      rcases hp with hp | rfl | rfl
      · rw [hold _ (hltL p hp)]; exact hs.mem.loc p hp
      · exact hK1
      · exact hL1
    · simp only [List.flatten_cons, List.flatten_nil, List.append_nil, List.mem_append, List.mem_cons, List.not_mem_nil, or_false] at hp
      rcases hp with hp | rfl | rfl
      · exact hs.mem.sep p hp
      · exact hI _ (Nat.le_refl _)
      · exact hI _ (by simp)
    · simp only [List.flatten_cons, List.flatten_nil, List.append_nil, List.map_append, List.map_cons, List.map_nil]
      refine List.nodup_append.2 ⟨hs.mem.nodup, by simp, ?_⟩
      rintro x hx y hy rfl
      obtain ⟨q, hq, hqe⟩ := List.mem_map.1 hx
      have := hltL q hq
      simp only [List.mem_cons, List.not_mem_nil, or_false] at hy
      omega
  have hfun := iter (w.heap.size + 1) (fun k I' Z => ∃ Y, Z = Y ++ recs w.heap.size (w.heap.size + 1) (rec_ .ready none) ∧ J k I' Y)
    (fun I' Z => ∃ Y, Z = Y ++ recs w.heap.size (w.heap.size + 1) (rec_ .done (some (.exit xid))) ∧ Jx I' Y) _
    (fun k I1 I2 Z hle ⟨Y, e, h⟩ => ⟨Y, e, hmono k I1 I2 Y hle h⟩) (fun I1 I2 Z hle ⟨Y, e, h⟩ => ⟨Y, e, hmonox I1 I2 Y hle h⟩) (fun k I' Z _ ⟨Y, e, h⟩ => ⟨Y, h⟩) ⟨L.flatten, rfl, h0⟩
    (by
      rintro k I' Z us hle ⟨Y, rfl, hJ⟩ hvs
      obtain ⟨L1, hperm, hr⟩ := round (w.heap.size + 1) k I' Y us hle hJ hvs
      have hab : Fits N ρ ⟨a.tmps, []⟩ := ha.bare
      have hy := YieldM.round (P := P) (N := N) (D := w.heap.size) (l := w.heap.size + 1) (fn := fn) (ps := ps) (assign := assign) (body := body) (tm := a.tmps) (ρ := ρ) (I' := I') (Y := L1.flatten) (vs := us)
        (J' := fun I3 Y3 => J (k + 1) I3 Y3) (Jx := fun id I3 Y3 => id = xid ∧ Jx I3 Y3) hps (hsz k I' us hvs) hab rec_ hrec
        (fun w1 hm => ⟨L1, rfl, (hr w1 (hm.regroup (by simp))).mono fun e ρ2 I2 L2 ⟨h1, h2⟩ => ⟨h1, fun w3 h3 => (h2 w3 h3).mono fun e' ρ3 I3 L3 h4 => by
          rcases h4 with h4 | ⟨h4, h5⟩
          · exact .inl h4
          · exact .inr ⟨xid, h4, rfl, h5⟩⟩⟩)
      refine YieldM.mono (YieldM.perm hy (by simpa using hperm.append_right _)) ?_
      rintro v J3 L' _ ⟨Y3, ⟨h1, h2, h3⟩ | ⟨id, h1, ⟨h4, h5⟩, h3⟩⟩
      · exact ⟨_, h3, .inl ⟨h1, Y3, rfl, h2⟩⟩
      · subst h4; exact ⟨_, h3, .inr ⟨h1, Y3, rfl, h5⟩⟩)
  refine ⟨w.heap.size + 1, [{ target := .collected w.heap.size, args := #[] }], W1, { target := .fn (.func gf) lb, args := #[.func (.yield (w.heap.size + 1)) #[] #[]] }, W1, gf,
    #[.func (.yield (w.heap.size + 1)) #[] #[]] ++ lb, W1, ?_, ?_, fun _ _ => trivial, ?_, fun hd => (by cases hd), ?_⟩
  · rw [← hW1, hrec]; exact run_enterLoop_outer _ _ _ _ _
  · simp only [resolve, ha.ev hg]
    simp [go_sem]
  · obtain ⟨f', h1, h2, h3⟩ := hok.ok
    have h2' : ¬ f'.name = "runtime.NumGoroutine" := by simpa using h2
    have h3' : f'.body ≠ none := by intro e; simp [e] at h3
    simp [invoke, callFunc, program, Sem.run, h1, h2', h3']
  · refine (callsIn_wide.2 (Calls.mono (hfun.run W1 hm1) ?_) : CallsIn Fence.wide (0 - 1) P gf _ W1 _)
    rintro e w2 ⟨v, I3, L', rfl, hch, hle, hn, hm2, hown, Z3, rfl, Y3, rfl, hJx⟩
    have hl2 : w2.heap[w.heap.size + 1]? = some (.loop (rec_ .done (some (.exit xid)))) := hm2.loc (w.heap.size + 1, _) (by simp)
    have hend : (Instr.endLoop (w.heap.size + 1)).run P w2 = .ok (some (.exit xid)) (w2.putObj (w.heap.size + 1) (.loop { rec_ .done (some (.exit xid)) with state := .exhausted })) := by
      have h := run_endLoop (P := P) hl2 (by rw [hrec]; simp)
      rw [hrec] at h ⊢
      exact h
    have hm4 := hm2.turn (r' := { rec_ .done (some (.exit xid)) with state := .exhausted })
    refine ⟨some (.exit xid), _, hend, ?_⟩
    have hown3 : ∀ p ∈ Y3, w0.heap.size ≤ p.1 ∨ p.1 ∈ L.flatten.map Prod.fst := fun p hp => by
      have hsw : w0.heap.size ≤ w.heap.size := hs.chg.size
      rcases hown p (by simp [hp]) with h | h
      · exact .inl (by omega)
      · simp only [List.flatten_cons, List.flatten_nil, List.append_nil, List.map_append, List.map_cons, List.map_nil, List.mem_append, List.mem_cons, List.not_mem_nil, or_false] at h
        rcases h with h | h | h
        · exact .inr h
        · exact .inl (by omega)
        · exact .inl (by omega)
    obtain ⟨L3, hp3, hq⟩ := done I3 Y3 hle hJx (fun hL p hp => (hown3 p hp).elim id fun h => by
      obtain ⟨q, hq, hqe⟩ := List.mem_map.1 h
      rw [← hqe]; exact hL q hq)
    have hnd := hm4.nodup
    simp only [List.flatten_cons, List.flatten_nil, List.append_nil, List.map_append, List.map_cons, List.map_nil, List.nodup_append] at hnd
    have hchg1 : Chg M w0 W1 := by rw [← hW1]; exact (hs.chg.alloc _).alloc _
    have hchg2 : Chg M w0 w2 := by
      refine ⟨hch.os.trans hchg1.os, hch.tape.trans hchg1.tape, hch.output.trans hchg1.output, Nat.le_trans hchg1.size hch.size, fun k hk hkm => ?_⟩
      rw [hch.block k (Nat.lt_of_lt_of_le hk hchg1.size) (fun hx => ?_)]
      · exact hchg1.block k hk hkm
      · have hsw : w0.heap.size ≤ w.heap.size := hs.chg.size
        have hk' : k < w0.heap.size := hk
        simp only [List.flatten_cons, List.flatten_nil, List.append_nil, List.map_append, List.map_cons, List.map_nil, List.mem_append, List.mem_cons, List.not_mem_nil, or_false] at hx
        rcases hx with h | h | h
        · obtain ⟨q, hq, hqe⟩ := List.mem_map.1 h
          rcases hs.own q hq with h1 | h1
          · have h1' : w0.heap.size ≤ q.1 := h1
            omega
          · exact hkm (hqe ▸ h1)
        · omega
        · omega
    have hsw : w0.heap.size ≤ w.heap.size := hs.chg.size
    have hst : St ⟨w0, M, I0, none⟩ I3 L3 (w2.putObj (w.heap.size + 1) (.loop { rec_ .done (some (.exit xid)) with state := .exhausted })) := by
      refine ⟨(hm4.left).perm (by simpa using hp3), hchg2.putObj (.inr (by omega)) _, fun p hp => ?_, hs.im0.trans hle, fun b h0' h1' => ?_⟩
      · rcases hown3 p (hp3.mem_iff.1 hp) with h | h
        · exact .inl h
        · obtain ⟨q, hq, hqe⟩ := List.mem_map.1 h
          rw [← hqe]; exact hs.own q hq
      · cases h : I b with
        | none =>
          have h2 := hn b h h1'
          have : w0.heap.size ≤ b := by omega
          exact this
        | some o => exact hs.new b h0' (by simp [h])
    refine wpIn_exit ⟨ρ, I3, L3, ha.bare, .inr ⟨w.heap.size, by simp [ha.defers], hm4.loc (w.heap.size, .deferred (some [])) (by simp), hsw, hm4.sep (w.heap.size, .deferred (some [])) (by simp), fun p hp e => ?_⟩, hst, hq⟩
    exact hnd.2.2 p.1 (List.mem_map_of_mem (hp3.mem_iff.1 hp)) w.heap.size (by simp) e
theorem calls_bodyC {P : Program} {f : FuncId} {fn : Func} {c : Code} {l : List Value} {I : Im} {L : Lh} {M : List Nat} {w : World} {post : Value → Im → Lh → Prop} {R : Ending → World → Prop}
    (hf : P.funcs[f]? = some fn) (hb : fn.body = some c) (N : Nat) (hN : fn.ntmps = N) (hl : Nat.ble l.length N = true) (hm : Mem I L w) (hM : ∀ p ∈ L.flatten, p.1 ∈ M)
    (h : wpC P ⟨w, M, I, none⟩ N c (endQ P fn post) (argEnv l 0) I L) (hR : ∀ v J L' w', St ⟨w, M, I, none⟩ J L' w' → post v J L' → R (.returned v) w') : Calls P f l.toArray w R := by
  refine callsIn_wide.1 (callsIn_of_wp_marks (F := Fence.wide) (n := 0) hf hb trivial (wpIn_mono (h _ w ?_ ?_) ?_) rfl)
  · have hl' : l.length ≤ N := Nat.le_of_ble_eq_true hl
    refine ⟨rfl, by simp [hN]; omega, fun t v hv => ?_⟩
    obtain ⟨_, h2⟩ := look_argEnv l 0 t v hv
    have hlt : t < l.length := (List.getElem?_eq_some_iff.1 (by simpa using h2)).1
    rw [Array.getElem?_append_left (by simpa using hlt)]
    simpa using h2
  · exact ⟨hm, Chg.refl _ _, fun p hp => .inr (hM p hp), Le.refl _, fun b h0 h1 => absurd h0 h1⟩
  · rintro e a w' ⟨ρ, J, L', hfit, hmk, hst, hq⟩
    have fin : (∃ v, Fin P fn ρ J L' v ∧ post v J L') → LeavesInM Fence.wide 0 P fn a.tmps R a.defers .returning w' := by
      rintro ⟨v, hfin, hp⟩
      rcases hmk with hd | ⟨D, hd, hD, hDs, hDI, hDL⟩
      · rw [hd]
        exact ⟨v, hfin N (bare a) w' hfit hst.mem, hR v J L' w' hst hp⟩
      · rw [hd]
        have hst' : St ⟨w, M, I, none⟩ J L' (w'.putObj D (.deferred none)) := by
          refine ⟨⟨fun b o hb => ?_, fun p hp => ?_, hst.mem.sep, hst.mem.nodup⟩, hst.chg.putObj (.inr hDs) _, hst.own, hst.im0, hst.new⟩
          · rw [World.putObj_heap_other (fun e => by rw [e, hDI] at hb; cases hb)]; exact hst.mem.im b o hb
          · rw [World.putObj_heap_other (hDL p hp)]; exact hst.mem.loc p hp
        exact ⟨by simp, .inl ⟨D, _, rfl, run_takeDeferred hD, v, hfin N (bare a) _ hfit hst'.mem, hR v J L' _ hst' hp⟩⟩
    cases e with
    | normal => exact fin hq
    | ret => exact fin hq
    | _ => exact hq.elim
end Go.Fl
set_option linter.unusedVariables false
namespace Go.Ab
open Go.Fl Go.RowKit
open Rep (rep)
def Cap (f : FuncId) (ags : List AV) (I : Im) (u : Value) : Prop := ∃ vs, u = .func (.func f) #[] vs.toArray ∧ RepVs I ags vs
theorem RepVs.mono' {I J : Im} (hle : Le I J) : ∀ {ags : List AV} {vs : List Value}, RepVs I ags vs → RepVs J ags vs
  | [], _, h => h
  | a :: ags, _, h => by obtain ⟨v, r, h1, h2, h3⟩ := h; exact ⟨v, r, h1, h2.mono hle, h3.mono' hle⟩
theorem Cap.mono {f : FuncId} {ags : List AV} {I J : Im} {u : Value} (hle : Le I J) (h : Cap f ags I u) : Cap f ags J u := by
  obtain ⟨vs, h1, h2⟩ := h; exact ⟨vs, h1, h2.mono' hle⟩
def AV.cap (f : FuncId) (ags : List AV) : AV := .pr (Cap f ags) Cap.mono
theorem OpP.mkCap {P : Program} {C : Ctx} {N : Nat} {σ : AEnv} {H : AHeap} {f : FuncId} {d : Option Nat} {args : Array Operand} {ty : TypeId} {ps : String} {af : Array Edge} {g : Option (Nat × Bool)} {K : AV → Prop} {caps : List AV}
    (hv : EvAs C σ H args.toList caps) (k : K (.cap f caps)) : OpP P N C ⟨d, .makeFunc (.func f) #[] args, ty, ps, af, g⟩ σ H K := .ofV (.cap f caps) (fun ρ I L hs => fun a w ha hm => by
      obtain ⟨vs, h1, h2⟩ := hv.get hs
      have e := ha.evL h1
      have hargs : args.map a.eval = vs.toArray := by rw [← e]; cases args; simp
      exact ⟨.func (.func f) #[] vs.toArray, ⟨vs, rfl, h2⟩, by simp [execOp, Instr.makeFunc, hargs]⟩) k
theorem OpP.mkAny {P : Program} {C : Ctx} {N : Nat} {σ : AEnv} {H : AHeap} {f : FuncId} {d : Option Nat} {args : Array Operand} {ty : TypeId} {ps : String} {af : Array Edge} {g : Option (Nat × Bool)} {K : AV → Prop} {caps : List AV}
    (hv : EvAs C σ H args.toList caps) (k : K .any) : OpP P N C ⟨d, .makeFunc (.func f) #[] args, ty, ps, af, g⟩ σ H K := .ofV .any (fun ρ I L hs => fun a w ha hm => by
      obtain ⟨vs, h1, h2⟩ := hv.get hs
      have e := ha.evL h1
      have hargs : args.map a.eval = vs.toArray := by rw [← e]; cases args; simp
      exact ⟨.func (.func f) #[] vs.toArray, trivial, by simp [execOp, Instr.makeFunc, hargs]⟩) k
theorem OpP.mul64 {P : Program} {C : Ctx} {N : Nat} {σ : AEnv} {H : AHeap} {d : Option Nat} {ty : TypeId} {ps : String} {af : Array Edge} {g : Option (Nat × Bool)} {K : AV → Prop} {x y : Operand} {T T2 : TypeId} {m n : UInt64} (hx : EvA C σ H x (.v m)) (hy : EvA C σ H y (.v n)) (k : K (.v (m * n))) :
    OpP P N C ⟨d, .binOp .mul T x y T2, ty, ps, af, g⟩ σ H K := .vk k (fun ρ I L hs => .mul64 (hx.by64 hs) (hy.by64 hs) ⟨_, rfl, rfl⟩)
theorem OpP.conv8_64 {P : Program} {C : Ctx} {N : Nat} {σ : AEnv} {H : AHeap} {d : Option Nat} {ty : TypeId} {ps : String} {af : Array Edge} {g : Option (Nat × Bool)} {K : AV → Prop} {x : Operand} {S D : TypeId} {ds : TypeDesc} {m : UInt8} (hS : P.underlying S = some ds) (hD : P.underlying D = some (.int .u64))
    (hx : EvA C σ H x (.v m)) (k : K (.v m.toUInt64)) : OpP P N C ⟨d, .convert S D x, ty, ps, af, g⟩ σ H K := .vk k (fun ρ I L hs => OpV.conv8_64 hS hD (hx.by8 hs) ⟨[Fl.u64 m.toUInt64], rfl, rfl⟩)
def YieldH (P : Program) (l : Nat) (I0 : Im) (ags : List AV) (B : Blk) (post : AV → Blk → Prop) : Prop :=
  ∀ I X vs, Le I0 I → RepVs I ags vs → B.brep I X → YieldM P l vs.toArray I [X] (fun v J L' => ∃ r B' X', L' = [X'] ∧ RepV J r v ∧ B'.brep J X' ∧ post r B')
structure Iter where
  K : Nat → Im → Chunk → Prop
  Kx : Im → Chunk → Prop
  mono : ∀ k I J Z, Le I J → K k I Z → K k J Z
  monox : ∀ I J Z, Le I J → Kx I Z → Kx J Z
structure ItSt where
  it : Iter
  st : Option Nat
def ItSt.ub (I : Im) (x : ItSt) (X : Chunk) : Prop := match x.st with | some k => x.it.K k I X | none => x.it.Kx I X
instance : UB ItSt where
  ub I _ x X := x.ub I X
  mono := by
    rintro I J w ⟨it, st⟩ X hle h
    cases st with
    | none => exact it.monox _ _ _ hle h
    | some k => exact it.mono _ _ _ _ hle h
abbrev itB (it : Iter) (st : Option Nat) : Blk := .usr undef (ItSt.mk it st)
theorem OpH.yieldM {P : Program} {C : Ctx} {N : Nat} {σ : AEnv} {H : AHeap} {d : Option Nat} {t : Nat} {args : Array Operand} {tys : Array TypeId} {ty : TypeId} {ps : String} {af : Array Edge} {g : Option (Nat × Bool)} {l : Nat} {I0 : Im} {ags : List AV}
    {post : AV → Blk → Prop} {K : AV → AHeap → Prop} {b : Bool} {B : Blk} {F : Bool × Blk → AHeap} (hI : Le I0 C.I0) (h : YieldH P l I0 ags B post) (hF : lookA σ t = some (.raw (.func (.yield l) #[] #[]))) (hH : Hole H (b, B) F) (hv : EvAs C σ H args.toList ags)
    (k : ∀ r B', post r B' → K r (F (b, B'))) : OpH P C N ⟨d, .call ⟨.value (.tmp t), args, tys⟩, ty, ps, af, g⟩ σ H K := fun ρ I L hs => by
  obtain ⟨vs, h1, h2⟩ := hv.get hs
  obtain ⟨i, X, h3, h4, h5⟩ := hH.get hs.heap
  obtain ⟨u, h6, rfl⟩ := hs.env t _ hF
  refine OpS.yieldM (l := l) (F := .tmp t) i h3 h6 h1 (h I X vs (hI.trans hs.im0) h2 h4.1) ?_ ?_
  · intro v J c' w hle ⟨r, B', X', q1, q2, q3, q5⟩ q4 hsz
    cases q1
    refine ⟨hle, r, _, q2, h5 J (b, B') c' hle ⟨q3, fun hb p hp => ?_⟩, k r B' q5⟩
    rcases q4 p hp with h6 | h6
    · exact Nat.le_trans hsz h6
    · obtain ⟨q, hq, hqe⟩ := List.mem_map.1 h6
      rw [← hqe]; exact h4.2 hb q hq
  · intro v J L' ⟨r, B', X', q1, q2, q3, q5⟩
    exact ⟨X', q1⟩
def Gl.over (G : Gl) (I0 : Im) : Gl := ⟨fun J => G.p J ∧ Le I0 J, fun hle h => ⟨G.mono hle h.1, h.2.trans hle⟩⟩
def IterH (G : Gl) (P : Program) (gf : FuncId) (caps : List AV) (vs : Nat → List AV) (bound : Nat) : Prop :=
  CallOk P gf ∧ ∀ (I0 : Im) (l : Nat) (it : Iter),
    (∀ k, k ≤ bound → YieldH P l I0 (vs k) (itB it (some k)) (fun r B' => ∃ b : Bool, r = .v b ∧ B' = itB it (if b then some (k + 1) else none) ∧ (b = true → k + 1 ≤ bound))) →
    FunH (G.over I0) P gf (.raw (.func (.yield l) #[] #[]) :: caps) [itB it (some 0)] (fun _ Hs => Hs = [itB it none])
def wpE (P : Program) (C : Ctx) (N : Nat) (c : Code) (Q : Exit → AEnv → AHeap → Prop) (σ : AEnv) (H : AHeap) : Prop := ∀ ρ I L, RSt C I L σ H ρ → wpC P C N c (qA C Q) ρ I L
def wpF (P : Program) (C : Ctx) (N : Nat) (c : Code) (Q : Exit → AEnv → AHeap → Prop) (σ : AEnv) (H : AHeap) : Prop := ∀ ρ I L, RSt C I L σ H ρ → wpD P C N c (qA C Q) ρ I L
def wpG (P : Program) (C : Ctx) (N : Nat) (ops : Array Oper) (Q : Exit → AEnv → AHeap → Prop) (l : List Oper) (σ : AEnv) (H : AHeap) : Prop := ∀ ρ I L, RSt C I L σ H ρ → wpLD P C N ops (qA C Q) l ρ I L
section
variable {P : Program} {C : Ctx} {N : Nat} {Q : Exit → AEnv → AHeap → Prop} {σ : AEnv} {H : AHeap}
theorem wpE.seqA {x y : Code} (h : wpA P C N x (thenA (wpE P C N y Q) Q) σ H) : wpE P C N (.seq x y) Q σ H := fun ρ I L hs => by
  refine .seqS ((h ρ I L hs).mono fun e ρ I L ⟨σ, H, h1, h2⟩ => ?_)
  cases e with
  | normal => exact h2 ρ I L h1
  | _ => exact ⟨σ, H, h1, h2⟩
theorem wpE.seqF {x y : Code} (h : wpE P C N x (thenA (wpF P C N y Q) Q) σ H) : wpE P C N (.seq x y) Q σ H := fun ρ I L hs => by
  refine .seqD ((h ρ I L hs).mono fun e ρ I L ⟨σ, H, h1, h2⟩ => ?_)
  cases e with
  | normal => exact h2 ρ I L h1
  | _ => exact ⟨σ, H, h1, h2⟩
theorem wpE.block {id : Nat} {c : Code} (h : wpE P C N c (blockA id Q) σ H) : wpE P C N (.block id c) Q σ H := fun ρ I L hs => by
  refine .block ((h ρ I L hs).mono fun e ρ I L ⟨σ, H, h1, h2⟩ => ?_)
  cases e with
  | exit i =>
    cases hb : Nat.beq i id with
    | true => simp only [blockA, blockQ, hb, cond_true] at h2 ⊢; exact ⟨σ, H, h1, h2⟩
    | false => simp only [blockA, blockQ, hb, cond_false] at h2 ⊢; exact ⟨σ, H, h1, h2⟩
  | _ => exact ⟨σ, H, h1, h2⟩
theorem wpF.seq {x y : Code} (h : wpF P C N x (thenA (wpF P C N y Q) Q) σ H) : wpF P C N (.seq x y) Q σ H := fun ρ I L hs => by
  refine .seq (fun a w ha hm hw => wpIn_mono (h ρ I L hs a w ha hm hw) fun e a w ⟨ρ, I, L, q1, q2, q3, σ, H, h1, h2⟩ => ⟨ρ, I, L, q1, q2, q3, ?_⟩)
  cases e with
  | normal => exact h2 ρ I L h1
  | _ => exact ⟨σ, H, h1, h2⟩
theorem wpF.ret (h : Q .ret σ H) : wpF P C N .ret Q σ H := fun ρ I L hs => .ret ⟨σ, H, hs, h⟩
theorem wpF.region {id : Nat} {l : List Oper} (hd : dstOk N l = true) (h : wpG P C N l.toArray Q l σ H) : wpF P C N (.region id l.toArray false) Q σ H := fun ρ I L hs => .region hd (h ρ I L hs)
theorem wpG.nil {ops : Array Oper} (h : Q .normal σ H) : wpG P C N ops Q [] σ H := fun ρ I L hs => .nil ⟨σ, H, hs, h⟩
theorem wpG.p {ops : Array Oper} {rest : List Oper} {d : Nat} {op : Op} {ty : TypeId} {ps : String} {af : Array Edge}
    (h : OpP P N C ⟨some d, op, ty, ps, af, none⟩ σ H (fun r => wpG P C N ops Q rest ((d, r) :: σ) H)) :
    wpG P C N ops Q (⟨some d, op, ty, ps, af, none⟩ :: rest) σ H := fun ρ I L hs =>
  .x (OpX.monoLe (h ρ I L hs) fun v J X hle ⟨hX, r, hr, hk⟩ => by subst hX; exact hk _ _ _ (hs.put hle hr (hs.heap.mono hle)))
end
def lentH (H : AHeap) : AHeap := H.map fun B => (false, B.2)
theorem repH.lent {n0 n1 : Nat} {I : Im} : ∀ {H : AHeap} {L : Lh}, repH n0 I H L → repH n1 I (lentH H) L
  | [], _, h => h
  | B :: H, _, h => by obtain ⟨X, R, h1, h2, h3⟩ := h; exact ⟨X, R, h1, ⟨h2.1, fun e => by cases e⟩, h3.lent⟩
def parA (ps : List Nat) (ags : List AV) (σ : AEnv) : AEnv := (ps.zip ags).foldl (fun σ p => p :: σ) σ
theorem RSt.params {C C' : Ctx} {I I' : Im} {L L' : Lh} {H H' : AHeap} (hle : Le I I') (hH : repH C'.w0.heap.size I' H' L') (hI : Le C'.I0 I') : ∀ {ps : List Nat} {ags : List AV} {vs : List Value} {σ : AEnv} {ρ : Env}, RSt C I L σ H ρ → RepVs I' ags vs → RSt C' I' L' (parA ps ags σ) H' (paramsEnv ps vs ρ) := by
  have base : ∀ {σ : AEnv} {ρ : Env}, RSt C I L σ H ρ → RSt C' I' L' σ H' ρ := fun hs => ⟨fun t a ht => by obtain ⟨u, q1, q2⟩ := hs.env t a ht; exact ⟨u, q1, q2.mono hle⟩, hH, hI⟩
  have main : ∀ {ps : List Nat} {ags : List AV} {vs : List Value} {σ : AEnv} {ρ : Env}, RSt C' I' L' σ H' ρ → RepVs I' ags vs → RSt C' I' L' (parA ps ags σ) H' (paramsEnv ps vs ρ) := by
    intro ps
    induction ps with
    | nil => intro ags vs σ ρ hs _; simpa [parA, paramsEnv] using hs
    | cons p ps ih =>
      intro ags vs σ ρ hs hv
      cases ags with
      | nil => cases (show vs = [] from hv); simpa [parA, paramsEnv] using hs
      | cons a ags =>
        obtain ⟨v, r, rfl, h2, h3⟩ := hv
        have := ih (hs.put (Le.refl _) (d := p) h2 hs.heap) h3
        simpa [parA, paramsEnv] using this
  intro ps ags vs σ ρ hs hv
  exact main (base hs) hv
theorem repK.le {I J : Im} (hle : Le I J) : ∀ {Hs : List Blk} {L : Lh}, repK I Hs L → repK J Hs L
  | [], _, h => h
  | B :: Hs, _, h => by obtain ⟨X, R, h1, h2, h3⟩ := h; exact ⟨X, R, h1, Blk.mono hle h2, repK.le hle h3⟩
theorem wpE.range {G : Gl} {P : Program} {C : Ctx} {N : Nat} {Q : Exit → AEnv → AHeap → Prop} {σ : AEnv} {H : AHeap} {t : Nat} {ps : Array Tmp} {assign body : Code} {gf : Nat} {caps : List AV} {vs : Nat → List AV} {bound : Nat} (Hs : Nat → List Blk) (Hx : List Blk) (xid : Nat)
    (hrd : C.rd = none) (hG : G.p C.I0) (hg : lookA σ t = some (.cap gf caps)) (hit : IterH G P gf caps vs bound) (hps : ∀ p ∈ ps.toList, p < N) (hsz : ∀ k, (vs k).length = ps.size)
    (h0 : Sel H (Hs 0)) (hall : H.all (·.1) = true)
    (round : ∀ k, k ≤ bound → ∀ C1 : Ctx, Ctx.Ok C1 → G.p C1.I0 → wpA P C1 N assign (fun e σ2 H2 => e = .normal ∧ ∀ C2 : Ctx, Ctx.Ok C2 → G.p C2.I0 → wpA P C2 N body (fun e' _ H3 => (e' = .normal ∧ k + 1 ≤ bound ∧ Sel H3 (Hs (k + 1))) ∨ (e' = .exit xid ∧ Sel H3 Hx)) σ2 (lentH H2))
      (parA ps.toList (vs k) σ) ((Hs k).map (fun B => (false, B)) ++ [(false, .none_)]))
    (done : Q (.exit xid) σ (Hx.map (fun B => (true, B)) ++ [(false, .none_)])) : wpE P C N (.rangeFunc (.tmp t) ps assign body) Q σ H := fun ρ I L hs => by
  obtain ⟨u, hu, us, rfl, hcap⟩ := hs.env t _ hg
  obtain ⟨L0, R0, hp0, hk0⟩ := h0 _ I L hs.heap
  have hlen : ∀ {ags : List AV} {us : List Value} {I : Im}, RepVs I ags us → us.length = ags.length := fun h => RepVs.len h
  have hL : ∀ q ∈ L.flatten, C.w0.heap.size ≤ q.1 := by
    have h1 := hs.heap
    clear hp0 hs h0 round
    revert L
    induction H with
    | nil => intro L h1; have : L = [] := h1; subst this; simp
    | cons B H ih =>
      intro L h1
      obtain ⟨X, R, rfl, h2, h3⟩ := h1
      simp only [List.all_cons, Bool.and_eq_true] at hall
      intro q hq
      simp only [List.flatten_cons, List.mem_append] at hq
      rcases hq with hq | hq
      · exact h2.2 hall.1 q hq
      · exact ih hall.2 R h3 q hq
  have stt : ∀ {Hs : List Blk} {I' : Im} {Y : Chunk} {L1 : Lh} {R : Chunk} (n : Nat), (L1.flatten ++ R).Perm Y → repK I' Hs L1 → repH n I' (Hs.map (fun B => (false, B)) ++ [(false, .none_)]) (L1 ++ [R]) := fun n h1 h2 =>
    repH.append h2.toH ⟨_, [], rfl, ⟨trivial, fun e => by cases e⟩, rfl⟩
  refine wpC.range (fun k I' ws => RepVs I' (vs k) ws) (fun k I' Y => k ≤ bound ∧ ∃ (L1 : Lh) (R : Chunk), (L1.flatten ++ R).Perm Y ∧ repK I' (Hs k) L1) xid (fun I' Y => ∃ (L1 : Lh) (R : Chunk), (L1.flatten ++ R).Perm Y ∧ repK I' Hx L1)
    hrd hu hit.1 hps (fun k I us h => by rw [hlen h, hsz]) (fun k I1 I2 Y hle ⟨h1, L1, R, h2, h3⟩ => ⟨h1, L1, R, h2, repK.le hle h3⟩) (fun I1 I2 Y hle ⟨L1, R, h2, h3⟩ => ⟨L1, R, h2, repK.le hle h3⟩)
    ⟨Nat.zero_le _, L0, R0, hp0, hk0⟩ ?_ ?_ ?_
  · -- a round
    rintro l k I' Y ws hle ⟨hkb, L1, R, hp1, hk1⟩ hws
    refine ⟨L1 ++ [R], by simpa using hp1, fun w1 hm1 => ?_⟩
    have hok : ∀ {I : Im} {L : Lh} {w : World}, Mem I L w → Ctx.Ok ⟨w, L.flatten.map Prod.fst, I, some l⟩ := fun hm k hk => by
      obtain ⟨p, hp, rfl⟩ := List.mem_map.1 hk
      exact lt_of_get (hm.loc p hp)
    have hr := round k hkb ⟨w1, (L1 ++ [R]).flatten.map Prod.fst, I', some l⟩ (hok hm1) (G.mono (hs.im0.trans hle) hG)
    have hrs : RSt ⟨w1, (L1 ++ [R]).flatten.map Prod.fst, I', some l⟩ I' (L1 ++ [R]) (parA ps.toList (vs k) σ) ((Hs k).map (fun B => (false, B)) ++ [(false, .none_)]) (paramsEnv ps.toList ws ρ) :=
      RSt.params hle (stt _ hp1 hk1) (Le.refl _) hs hws
    refine (hr _ I' _ hrs).mono ?_
    rintro e ρ2 I2 L2 ⟨σ2, H2, hr2, rfl, hb⟩
    refine ⟨rfl, fun w3 hm3 => ?_⟩
    have hb2 := hb ⟨w3, L2.flatten.map Prod.fst, I2, some l⟩ (hok hm3) (G.mono ((hs.im0.trans hle).trans hr2.im0) hG)
    refine (hb2 ρ2 I2 L2 ⟨hr2.env, hr2.heap.lent, Le.refl _⟩).mono ?_
    rintro e' ρ3 I3 L3 ⟨σ3, H3, hr3, ⟨rfl, hk', hsel⟩ | ⟨rfl, hsel⟩⟩
    · obtain ⟨L4, R4, q1, q2⟩ := hsel _ I3 L3 hr3.heap
      exact .inl ⟨rfl, hk', L4, R4, q1, q2⟩
    · obtain ⟨L4, R4, q1, q2⟩ := hsel _ I3 L3 hr3.heap
      exact .inr ⟨rfl, L4, R4, q1, q2⟩
  · -- the iterator
    intro l K Kx Z hm hmx hKJ hK0 hy
    have hit2 := hit.2 I l ⟨K, Kx, hm, hmx⟩ (fun k hkb I' X ws hle hws hB => by
      have hB' : K k I' X := hB
      refine YieldM.mono (hy k I' X ws hle hB' hws) ?_
      rintro v J L' hle' ⟨Z3, rfl, ⟨rfl, h1⟩ | ⟨rfl, h1⟩⟩
      · obtain ⟨Y, h2, _⟩ := hKJ (k + 1) J Z3 (hle.trans hle') h1
        exact ⟨.v true, itB ⟨K, Kx, hm, hmx⟩ (some (k + 1)), Z3, rfl, ⟨_, rfl, rfl⟩, h1, .intro true ⟨rfl, rfl, fun _ => h2⟩⟩
      · exact ⟨.v false, itB ⟨K, Kx, hm, hmx⟩ none, Z3, rfl, ⟨_, rfl, rfl⟩, h1, .intro false ⟨rfl, rfl, fun e => by cases e⟩⟩)
    have hM := hit2 I [Z] (.func (.yield l) #[] #[] :: us) ⟨G.mono hs.im0 hG, Le.refl _⟩ ⟨_, us, rfl, rfl, hcap⟩ ⟨Z, [], rfl, hK0, rfl⟩
    have hargs : (#[.func (.yield l) #[] #[]] ++ us.toArray : Array Value) = (.func (.yield l) #[] #[] :: us).toArray := by simp
    rw [hargs]
    refine ⟨hM.ok, fun w0 hm0 => (hM.run w0 hm0).mono ?_⟩
    rintro e w' ⟨v, J, L', rfl, q1, q2, q3, q4, q5, r, Hs', q6, q7, rfl⟩
    obtain ⟨X', R', rfl, q8, q9⟩ := q7
    have q9' : R' = [] := q9
    subst q9'
    exact ⟨v, J, _, rfl, q1, q2, q3, q4, q5, X', rfl, q8⟩
  · -- behind it
    rintro I3 Y hle ⟨L1, R, hp1, hk1⟩ hfr
    have hfr' := hfr hL
    refine ⟨L1 ++ [R], by simpa using hp1, σ, _, ⟨fun t a ht => by obtain ⟨u, q1, q2⟩ := hs.env t a ht; exact ⟨u, q1, q2.mono hle⟩, ?_, hs.im0.trans hle⟩, done⟩
    exact repH.append (hk1.toT (fun p hp => hfr' p (hp1.mem_iff.1 (List.mem_append_left _ hp)))) ⟨_, [], rfl, ⟨trivial, fun e => by cases e⟩, rfl⟩
theorem EvA.ownR {C : Ctx} {σ : AEnv} {H : AHeap} {α : Type} {r : Rep α} {t : Nat} {w : Value} {E : TypeId} {l : List α} {b : Bool} {F : Bool × Blk → AHeap} (ht : lookA σ t = some (.raw w)) (hH : Hole H (b, .own E w l) F) : EvA C σ H (.tmp t) (.v (SlRaw.mk w)) := fun ρ I L hs => by
  obtain ⟨u, h1, rfl⟩ := hs.env t _ ht
  obtain ⟨i, X, h2, h3, _⟩ := hH.get hs.heap
  obtain ⟨xs, h4, _⟩ := h3.1
  obtain ⟨a, c, rfl⟩ := h4.shape
  exact ⟨_, h1, _, ⟨rfl, rfl⟩, rfl⟩
theorem FunH.frzA {G : Gl} {P : Program} {f : FuncId} {ags : List AV} {E : TypeId} {α : Type} [r : Rep α] {l : List α} (h : FunH G P f ags [] (fun r Hs => ∃ u, r = .raw u ∧ Hs = [.own E u l])) : FunA G P f ags (fun r => r = .v l) := fun I vs hG hvs => by
  have hM := h I [] vs hG hvs rfl
  refine ⟨hM.ok, fun w hm => (hM.run w hm).mono ?_⟩
  rintro e w' ⟨v, J, L', rfl, q1, q2, q3, q4, q5, r, Hs', q6, q7, u, rfl, rfl⟩
  obtain ⟨X, R, rfl, q8, q9⟩ := q7
  have q9' : R = [] := q9
  subst q9'
  have q6' : v = u := q6
  subst q6'
  have hle : Le J (J.with X) := Im.with_le fun p hp => q4.sep p (by simpa using hp)
  refine ⟨v, J.with X, rfl, by simpa using q1, q2.trans hle, fun b h0 h1 => ?_, (q4.freeze (i := 0) (c := X) rfl).drop, .v l, freeze_own q8 hle (fun p hp => Im.with_mem (by simpa using q4.nodup) hp), rfl⟩
  cases hj : J.with X b with
  | none => exact absurd hj h1
  | some o =>
    rcases Im.with_some hj with h2 | h2
    · rcases q5 (b, o) (by simpa using h2) with h3 | h3
      · exact h3
      · cases h3
    · exact q3 b h0 (by simp [h2])
theorem FunH.introSE {G : Gl} {P : Program} {f : FuncId} {fn : Func} {c : Code} {ags : List AV} {Hs : List Blk} {post : AV → List Blk → Prop} (hf : P.funcs[f]? = some fn) (hb : fn.body = some c) (hn : (fn.name == "runtime.NumGoroutine") = false)
    (N : Nat) (hN : fn.ntmps = N) (hl : Nat.ble ags.length N = true) (σ : AEnv) (hσ : argA ags 0 = σ) (H0 : AHeap) (hH : Hs.map (fun B => (false, B)) = H0)
    (h : ∀ C : Ctx, Ctx.Ok C → C.rd = none → G.p C.I0 → wpE P C N c (endA P fn C (fun r H => ∃ Hs', Sel H Hs' ∧ post r Hs')) σ H0) : FunH G P f ags Hs post := fun I L vs hG hvs hL =>
  ⟨⟨fn, hf, hn, by simp [hb]⟩, fun w hm => calls_bodyC hf hb N hN (by rw [hvs.len]; exact hl) hm (M := L.flatten.map Prod.fst) (fun p hp => List.mem_map_of_mem hp)
    ((h ⟨w, L.flatten.map Prod.fst, I, none⟩ (fun k hk => by
        obtain ⟨p, hp, rfl⟩ := List.mem_map.1 hk
        exact lt_of_get (hm.loc p hp)) rfl hG (argEnv vs 0) I L ⟨by rw [← hσ]; exact hvs.env 0, by rw [← hH]; exact hL.toH, Le.refl I⟩).mono fun e ρ J L hq => endA.q hq)
    fun v J L' w' hs hp => by
      obtain ⟨r, H, h1, h2, Hs', h3, h4⟩ := hp
      obtain ⟨L2, R, h5, h6⟩ := h3 _ J L' h2
      have hin : ∀ p ∈ L2.flatten, p ∈ L'.flatten := fun p hp => h5.mem_iff.1 (List.mem_append_left _ hp)
      refine ⟨v, J, L2, rfl, hs.chg, hs.im0, fun b h0 h1 => hs.new b h0 h1, ⟨hs.mem.im, fun p hp => hs.mem.loc p (hin p hp), fun p hp => hs.mem.sep p (hin p hp), ?_⟩, fun p hp => hs.own p (hin p hp), r, _, h1, h6, h4⟩
      have := (h5.map Prod.fst).nodup_iff.2 hs.mem.nodup
      rw [List.map_append, List.nodup_append] at this
      exact this.1⟩
end Go.Ab
set_option maxRecDepth 1000000
set_option linter.unusedVariables false
set_option linter.unusedSimpArgs false
namespace Go.Proofs.YtkjpkdpnlioffaaDoor
open Go.Fl Go.Ab Go.Mac Go.Sha
theorem numberOwn_c (n : Int) (hn0 : 0 ≤ n) (hn1 : n ≤ 281474976710656) : FunH gl Tryd.prog 49 [.v n] [] (fun r Hs => ∃ u, r = .raw u ∧ Hs = [.own 5 u (be64 (UInt64.ofInt n) 8)]) := by
  refine FunH.introD Tryd.func49 rfl (by kernel_rfl) 17 rfl rfl _ rfl _ rfl fun C hC hG => ?_
  refine .seq ?_
  refine .region rfl ?_
  refine .p (.assign .raw ?_)
  refine .nil ?_
  refine .seq ?_
  refine .region rfl ?_
  refine .p (.assign .raw ?_)
  refine .nil ?_
  refine .seq ?_
  refine .seq ?_
  refine .nilOwn 5 UInt8 ?_
  refine .region rfl ?_
  refine .p (.assign (.i rfl) ?_)
  refine .nil ?_
  refine .block ?_
  refine .loopR (α := Nat × Value) [(0, _)] (fun x R => (3, .raw x.2) :: (4, .v (56 - 8 * (x.1 : Int))) :: R) (fun x => [(true, .own 5 x.2 (be64 (UInt64.ofInt n) x.1))]) (fun x => x.1 ≤ 8) (fun x => 8 - x.1) ((0, .slice none 0 0)) (.cons rfl (.nil _)) ?_ (.cons rfl (.cons rfl (.cons rfl (.nil _)))) (rfl) fun x hF => ?_
  · simp
  obtain ⟨j, w⟩ := x
  dsimp only at hF ⊢
  refine .seq ?_
  refine .seq ?_
  refine .region rfl ?_
  refine .p (.move (.t rfl) (.p (.geq (.t rfl) (.i rfl) ?_)))
  refine .nil ?_
  refine .condP (.t rfl) (fun hc6 => ?_) (fun hc6 => ?_)
  · refine .skip ?_
    refine .seq ?_
    refine .block ?_
    have hbe := be64_length (UInt64.ofInt n) j
    refine .region rfl ?_
    refine .p (.move (.t rfl) (.p (.move (.t rfl) (.p (.move (.t rfl) (.p (.shrI (.t rfl) (.t rfl) (by first | omega | (simp; done) | (simp; omega) | (simp at *; omega)) (by first | omega | (simp; done) | (simp; omega) | (simp at *; omega)) (.p (.conv8 Tryd.underlying3 Tryd.underlying5 (.t rfl) (.h (.buildSlice (α := UInt8) ty5 Tryd.underlying25 (.cons (.t rfl) .nil) rfl (by decide) fun b14 => ?_)))))))))))
    refine .h (.append st25 (.inl ⟨_, Tryd.underlying25⟩) rfl (.s .z) (.own rfl .z) (by first | omega | (simp; done) | (simp; omega) | (simp at *; omega)) (by first | omega | (simp; done) | (simp; omega) | (simp at *; omega)) (fun w15 => .p (.assign (.t rfl) ?_)) rfl)
    refine .drop ?_
    refine .nil ?_
    refine .region rfl ?_
    refine .p (.move (.t rfl) (.p (.sub (.t rfl) (.i rfl) (by first | omega | (simp; done) | (simp; omega) | (simp at *; omega)) (by first | omega | (simp; done) | (simp; omega) | (simp at *; omega)) (.p (.assign (.t rfl) ?_)))))
    refine .nil ?_
    refine ⟨(j + 1, w15), .cons rfl (.cons (congrArg (fun q => some (AV.v q)) (by dsimp only; omega)) (.cons rfl (.nil _))), congrArg (fun q => [(true, Blk.own _ _ q)]) (by dsimp only; rw [be64_succ, ← ofInt_shr n hn0 (by omega) _ (by omega), show (56 - 8 * (j : Int)).toNat = 56 - 8 * j by omega]), ?_, by dsimp only; omega⟩
    dsimp only; omega
  · refine .exit ?_
    refine .seq ?_
    refine .region rfl ?_
    refine .p (.move (.t rfl) (.p (.assign (.t rfl) ?_)))
    refine .nil ?_
    refine .ret ?_
    refine ⟨_, .r1 rfl (.tmp rfl), ?_⟩
    obtain rfl : j = 8 := by omega
    exact ⟨0, _, rfl, rfl⟩
theorem boxCheck_c (key : Tag) (b : List UInt8) (hb : b.length ≤ 900000) : FunA gl Tryd.prog 51 [.v key, .v b] (fun r => r = .v (hmac key.l (boxStr.l ++ b))) := by
  refine FunA.intro Tryd.func51 rfl (by kernel_rfl) 11 rfl rfl _ rfl fun C hC hG => ?_
  refine .seq ?_
  refine .region rfl ?_
  refine .h (.box (.t rfl) fun b2 => .h (.alloc ty24 fun b4 => ?_))
  refine .nil ?_
  refine .seq ?_
  refine .frzOb hC (.s .z) ?_
  refine .asP 2 rfl (.s .z) ?_
  refine .drawC (by kernel_rfl) 6 [[], [], [(6, 1)], [], [(7, 2), (8, 3)], [(5, 0), (9, 4)]] [1, 2, 4, 5] rfl (by kernel_rfl) rfl (by kernel_rfl) (by decide) ?_
  refine ⟨_, fun H => OpP.slArrP (by decide) ar24 (.t rfl) rfl, ?_⟩
  refine .inl ?_
  refine .inl ?_
  refine ⟨_, fun H => OpP.move (.t rfl) rfl, ?_⟩
  refine .inl ?_
  refine .inl ?_
  refine OpH.buildSlice (α := UInt8) ty5 Tryd.underlying25 (.cons (.u8 98 rfl) (.cons (.u8 111 rfl) (.cons (.u8 120 rfl) .nil))) rfl (by decide) fun b6 => ?_
  refine OpH.same Tryd.underlying25 Tryd.underlying5 rfl .z (by simp) ?_
  refine OpH.append st25 (.inl ⟨_, Tryd.underlying25⟩) rfl .z (.v (.t rfl)) (by first | omega | (simp; done) | (simp; omega) | (simp at *; omega)) (by first | omega | (simp; done) | (simp; omega) | (simp at *; omega)) (fun w9 => ?_) rfl
  refine OpH.frzOwn hC .z (OpH.as 9 rfl .z (OpH.ofP (OpP.call1 hG (hmacOf_c _ _ (by first | omega | (simp; done) | (simp; omega) | (simp at *; omega)) (by first | omega | (simp; done) | (simp; omega) | (simp at *; omega))) (.cons (.t rfl) (.cons (.t rfl) .nil)) ?_)))
  show wpB _ _ _ _ _ _ ((10, _) :: (9, _) :: (8, _) :: (7, _) :: (6, _) :: (5, _) :: _) _
  refine .n (.stW ty24 (.t rfl) (.t rfl) (.s .z) ?_)
  refine .nil ?_
  refine .ret ?_
  refine ⟨_, .r1 rfl (.cell ty24 rfl (.s .z)), ?_⟩
  rfl
theorem cloneOwn_c (b : List UInt8) (hb : b.length ≤ 1000000) : FunH gl Tryd.prog 53 [.v b] [] (fun r Hs => ∃ u, r = .raw u ∧ Hs = [.own 5 u b]) := by
  refine FunH.introS Tryd.func53 rfl (by kernel_rfl) 8 rfl rfl _ rfl _ rfl fun C hC hG => ?_
  refine .seq ?_
  refine .region rfl ?_
  refine .p (.assign .raw ?_)
  refine .nil ?_
  refine .seq ?_
  refine .seq ?_
  refine .region rfl ?_
  refine .p (.move (.t rfl) (.p (.eqNilS Tryd.underlying25 (.t rfl) fun c4 hn4 => ?_)))
  refine .nil ?_
  refine .cond (.t rfl) (fun hc4 => ?_) (fun hc4 => ?_)
  · refine .seq ?_
    refine .region rfl ?_
    refine .p (.assign .raw ?_)
    refine .nil ?_
    refine .nilOwn 5 UInt8 ?_
    refine .ret ?_
    refine ⟨_, .r1 rfl (.tmp rfl), ?_⟩
    refine ⟨_, .cons .z (.nil), ?_⟩
    rw [hn4 hc4]; exact ⟨_, rfl, rfl⟩
  · refine .skip ?_
    refine .seq ?_
    refine .region rfl ?_
    refine .h (.buildSlice (α := UInt8) ty5 Tryd.underlying25 .nil rfl (by decide) fun b5 => .p (.move (.t rfl) (.h (.append st25 (.inl ⟨_, Tryd.underlying25⟩) rfl .z (.v (.t rfl)) (by first | omega | (simp; done) | (simp; omega) | (simp at *; omega)) (by first | omega | (simp; done) | (simp; omega) | (simp at *; omega)) (fun w7 => .p (.assign (.t rfl) ?_)) rfl))))
    refine .nil ?_
    refine .ret ?_
    refine ⟨_, .r1 rfl (.tmp rfl), ?_⟩
    refine ⟨_, .cons .z (.nil), ?_⟩
    rw [List.nil_append]; exact ⟨w7, rfl, rfl⟩
def xorL (f : Nat → UInt8) (b : List UInt8) (k : Nat) : List UInt8 := (b.take k).mapIdx (fun i c => c ^^^ f i) ++ b.drop k
theorem xorL_length (f : Nat → UInt8) (b : List UInt8) (k : Nat) : (xorL f b k).length = b.length := by simp [xorL]; omega
theorem xorL_ge (f : Nat → UInt8) (b : List UInt8) {k : Nat} (h : b.length ≤ k) : xorL f b k = xorL f b b.length := by simp [xorL, List.take_of_length_le h, List.drop_of_length_le h]
theorem xorL_get (f : Nat → UInt8) (b : List UInt8) (k : Nat) (hk : k < b.length) (h : k < (xorL f b k).length) : (xorL f b k)[k] = b[k] := by
  simp only [xorL]
  rw [List.getElem_append_right (by simp; omega)]
  simp
  congr 1; omega
theorem xorL_succ (f : Nat → UInt8) (b : List UInt8) (k : Nat) (hk : k < b.length) : (xorL f b k).set k (b[k] ^^^ f k) = xorL f b (k + 1) := by
  apply List.ext_getElem (by simp [xorL_length])
  intro j h1 h2
  rw [List.getElem_set]
  simp only [xorL]
  by_cases e : k = j
  · subst e
    rw [if_pos rfl, List.getElem_append_left (by simp; omega)]
    simp
  · rw [if_neg e]
    rcases Nat.lt_or_ge j k with h | h
    · rw [List.getElem_append_left (by simp; omega), List.getElem_append_left (by simp; omega)]
      simp
    · rw [List.getElem_append_right (by simp; omega), List.getElem_append_right (by simp; omega)]
      simp
      congr 1; omega
theorem xor_round (f : Nat → UInt8) (b : List UInt8) (k x : Nat) (h : x = 32 ∨ (b.length ≤ 32 * k + x ∧ x ≤ 32)) : xorL f b (32 * k + x) = xorL f b (32 * (k + 1)) := by
  rcases h with rfl | ⟨h, h2⟩
  · rfl
  · rw [xorL_ge _ _ h, xorL_ge _ _ (show b.length ≤ 32 * (k + 1) by omega)]
def blockAt (key : Tag) (nb : List UInt8) (k : Nat) : Tag := hmac key.l (streamStr.l ++ nb ++ be64 (UInt64.ofInt (k : Int)) 8)
def xorB (key : Tag) (nb : List UInt8) (i : Nat) : UInt8 := (blockAt key nb (i / 32)).l.getD (i % 32) 0
theorem xor_step (key : Tag) (nb b : List UInt8) (k x : Nat) (hx : x < 32) (hk : 32 * k + x < b.length) (h1 : ((k : Int) * 32 + (x : Int)).toNat < (xorL (xorB key nb) b (32 * k + x)).length) (h2 : ((k : Int) * 32 + (x : Int) - (k : Int) * 32).toNat < 32) :
    (xorL (xorB key nb) b (32 * k + x)).set ((k : Int) * 32 + (x : Int)).toNat ((xorL (xorB key nb) b (32 * k + x))[((k : Int) * 32 + (x : Int)).toNat] ^^^ (Lens.idx ((k : Int) * 32 + (x : Int) - (k : Int) * 32).toNat h2).get (blockAt key nb k)) = xorL (xorB key nb) b (32 * k + (x + 1)) := by
  have e0 : ((k : Int) * 32 + (x : Int)).toNat = 32 * k + x := by omega
  have e4 : ((k : Int) * 32 + (x : Int) - (k : Int) * 32).toNat = x := by omega
  rw [show 32 * k + (x + 1) = 32 * k + x + 1 by omega, ← xorL_succ _ b _ hk]
  have e3 : (Lens.idx ((k : Int) * 32 + (x : Int) - (k : Int) * 32).toNat h2).get (blockAt key nb k) = xorB key nb (32 * k + x) := by
    show (blockAt key nb k).l[((k : Int) * 32 + (x : Int) - (k : Int) * 32).toNat]'_ = _
    unfold xorB
    have h5 : (32 * k + x) / 32 = k := by omega
    have h6 : (32 * k + x) % 32 = x := by omega
    have h4 : x < (blockAt key nb k).l.length := by rw [Arr.len]; omega
    simp only [e4, h5, h6]
    rw [List.getD_eq_getElem?_getD, List.getElem?_eq_getElem h4]; rfl
  simp only [e3, e0]
  rw [xorL_get (xorB key nb) b _ hk]
theorem boxStream_c (key : Tag) (nb : List UInt8) : FunA gl Tryd.prog 71 [.v key, .v nb] (fun r => r = .cap 85 [.p nb, .p key]) := by
  refine FunA.intro Tryd.func71 rfl (by kernel_rfl) 6 rfl rfl _ rfl fun C hC hG => ?_
  refine .seq ?_
  refine .region rfl ?_
  refine .h (.box (.t rfl) fun b2 => .h (.box (.t rfl) fun b3 => .p (.assign .raw ?_)))
  refine .nil ?_
  refine .seq ?_
  refine .frzOb hC .z ?_
  refine .asP 3 rfl .z ?_
  refine .frzOb hC (.s .z) ?_
  refine .asP 2 rfl (.s .z) ?_
  refine .region rfl ?_
  refine .p (.mkCap (.cons (.t rfl) (.cons (.t rfl) .nil)) (.p (.assign (.t rfl) ?_)))
  refine .nil ?_
  refine .ret ?_
  refine ⟨_, .r1 rfl (.tmp rfl), ?_⟩
  rfl
theorem streamIt_c (key : Tag) (nb : List UInt8) (hn : nb.length ≤ 900000) (bound : Nat) (hb : bound ≤ 1000000) : IterH gl Tryd.prog 85 [.p nb, .p key] (fun k => [.v ((k : Int) * 32), .v (blockAt key nb k)]) bound := by
  refine ⟨⟨_, Tryd.func85, by kernel_rfl, rfl⟩, fun I0 l it hy => ?_⟩
  refine FunH.introS Tryd.func85 rfl (by kernel_rfl) 23 rfl rfl _ rfl _ rfl fun C hC hG' => ?_
  obtain ⟨hG, hI⟩ := hG'
  refine .seq ?_
  refine .region rfl ?_
  refine .p (.assign (.i rfl) ?_)
  refine .nil ?_
  refine .block ?_
  refine .loopR (α := Nat) [(0, _), (1, _), (2, _)] (fun k R => (4, .v (k : Int)) :: R) (fun k => [(false, itB it (some k))]) (fun k => k ≤ bound) (fun k => bound - k) (0) (.cons rfl (.cons rfl (.cons rfl (.nil _)))) ?_ (.cons rfl (.cons rfl (.cons rfl (.cons rfl (.nil _))))) (rfl) fun k hF => ?_
  · simp
  refine .seq ?_
  refine .block ?_
  refine .seq ?_
  have hb2 := be64_length (UInt64.ofInt (k : Int)) 8
  refine .region rfl ?_
  refine .h (.buildSlice (α := UInt8) ty5 Tryd.underlying25 (.cons (.u8 115 rfl) (.cons (.u8 116 rfl) (.cons (.u8 114 rfl) (.cons (.u8 101 rfl) (.cons (.u8 97 rfl) (.cons (.u8 109 rfl) .nil)))))) rfl (by decide) fun b8 => .h (.same Tryd.underlying25 Tryd.underlying5 rfl .z (by simp) (.p (.ldP ty25 (.t rfl) (.h (.append st25 (.inl ⟨_, Tryd.underlying25⟩) rfl .z (.v (.t rfl)) (by first | omega | (simp; done) | (simp; omega) | (simp at *; omega)) (by first | omega | (simp; done) | (simp; omega) | (simp at *; omega)) (fun w11 => .p (.move (.t rfl) (.h (.call0 hG (numberOwn_c _ (by first | omega | (simp; done) | (simp; omega) | (simp at *; omega)) (by first | omega | (simp; done) | (simp; omega) | (simp at *; omega))) (.cons (.t rfl) .nil) fun r13 Hs13 hr13 => ?_)))) rfl))))))
  obtain ⟨u13, rfl, rfl⟩ := hr13
  show wpB _ _ _ _ _ _ _ ((true, _) :: _)
  refine .h (.append st25 (.inl ⟨_, Tryd.underlying25⟩) rfl (.s .z) (.own rfl .z) (by first | omega | (simp; done) | (simp; omega) | (simp at *; omega)) (by first | omega | (simp; done) | (simp; omega) | (simp at *; omega)) (fun w14 => .p (.assign (.t rfl) ?_)) rfl)
  refine .nil ?_
  refine .seq ?_
  refine .frzOwn hC (.s .z) ?_
  refine .as 5 rfl (.s .z) ?_
  refine .region rfl ?_
  refine .p (.move (.t rfl) (.p (.move (.t rfl) (.p (.mul (.t rfl) (.i rfl) (by first | omega | (simp; done) | (simp; omega) | (simp at *; omega)) (by first | omega | (simp; done) | (simp; omega) | (simp at *; omega)) (.p (.slArrP (by decide) ar24 (.t rfl) (.p (.move (.t rfl) (.p (.call1 hG (hmacOf_c _ _ (by first | omega | (simp; done) | (simp; omega) | (simp at *; omega)) (by first | omega | (simp; done) | (simp; omega) | (simp at *; omega))) (.cons (.t rfl) (.cons (.t rfl) .nil)) ?_)))))))))))
  refine .h (.yieldM hI (hy k hF) rfl (.s (.s .z)) (.cons (.t rfl) (.cons (.t rfl) .nil)) fun r21 B21 hr21 => ?_)
  obtain ⟨c21, rfl, rfl, hk21⟩ := hr21
  refine .p (.not (.t rfl) ?_)
  refine .drop ?_
  refine .drop ?_
  refine .nil ?_
  refine .cond (.t rfl) (fun hc22 => ?_) (fun hc22 => ?_)
  · refine .ret ?_
    refine ⟨_, .r0 rfl , ?_⟩
    refine ⟨_, .cons .z (.nil), ?_⟩
    have e : c21 = false := by simpa using hc22
    subst e
    rfl
  · refine .skip ?_
    refine .region rfl ?_
    refine .p (.move (.t rfl) (.p (.add (.t rfl) (.i rfl) (by first | omega | (simp; done) | (simp; omega) | (simp at *; omega)) (by first | omega | (simp; done) | (simp; omega) | (simp at *; omega)) (.p (.assign (.t rfl) ?_)))))
    refine .nil ?_
    refine ⟨k + 1, .cons rfl (.cons rfl (.cons rfl (.cons rfl (.nil _)))), congrArg (fun q => [(false, itB it q)]) (by rw [show c21 = true by simpa using hc22]; rfl), ?_, by have := hk21 (by simpa using hc22); omega⟩
    exact hk21 (by simpa using hc22)
theorem tyR25 : TyIs Tryd.prog 25 SlRaw := .of (by kernel_rfl) (by kernel_rfl) (by kernel_rfl) (by decide)
theorem crypt_c (key : Tag) (nb b : List UInt8) (hn : nb.length ≤ 900000) (hb : b.length ≤ 1000000) : FunH gl Tryd.prog 50 [.v key, .v nb, .v b] [] (fun r Hs => ∃ u, r = .raw u ∧ Hs = [.own 5 u (xorL (xorB key nb) b b.length)]) := by
  refine FunH.introSE Tryd.func50 rfl (by kernel_rfl) 47 rfl rfl _ rfl _ rfl fun C hC hrd hG => ?_
  refine .seqA ?_
  refine .region rfl ?_
  refine .h (.box (.t rfl) fun b3 => .p (.assign (.nilS (α := UInt8)) ?_))
  refine .nil ?_
  refine .seqA ?_
  refine .frzOb hC .z ?_
  refine .asP 3 rfl .z ?_
  refine .region rfl ?_
  refine .p (.move (.t rfl) (.h (.call0 hG (cloneOwn_c _ (by first | omega | (simp; done) | (simp; omega) | (simp at *; omega))) (.cons (.t rfl) .nil) fun r12 Hs12 hr12 => ?_)))
  obtain ⟨u12, rfl, rfl⟩ := hr12
  show wpB _ _ _ _ _ _ _ ((true, _) :: _)
  refine .h (.alloc tyR25 fun b7 => .n (.stW tyR25 (.t rfl) (.ownR rfl (.s .z)) .z ?_))
  refine .nil ?_
  refine .seqF ?_
  refine .seqA ?_
  refine .region rfl ?_
  refine .p (.ldP ty24 (.t rfl) (.p (.move (.t rfl) (.p (.call1 hG (boxStream_c _ _) (.cons (.t rfl) (.cons (.t rfl) .nil)) ?_)))))
  refine .nil ?_
  refine .block ?_
  refine .range (vs := fun k => [.v ((k : Int) * 32), .v (blockAt key nb k)]) (bound := (b.length + 31) / 32) (fun k => [.ob (ptr b7 0) (SlRaw.mk u12), .own 5 u12 (xorL (xorB key nb) b (32 * k))]) [.ob (ptr b7 0) (SlRaw.mk u12), .own 5 u12 (xorL (xorB key nb) b b.length)] 0 hrd hG rfl (streamIt_c key nb hn _ (by omega)) (by decide) (fun _ => rfl) (.cons .z (.cons (.s .z) .nil)) rfl (fun k hk C hC hG => ?_) ?_
  · show wpA _ _ _ _ _ ((17, _) :: (16, _) :: _) [(false, _), (false, _), (false, .none_)]
    have hl5 := xorL_length (xorB key nb) b (32 * k)
    refine .seq ?_
    refine .region rfl ?_
    refine .p (.assign (.t rfl) ?_)
    refine .nil ?_
    refine .region rfl ?_
    refine .h (.alloc ty24 fun b9 => .n (.stW ty24 (.t rfl) (.t rfl) .z ?_))
    refine .nil ?_
    refine ⟨rfl, fun C hC hG => ?_⟩
    show wpA _ _ _ _ _ _ [(false, _), (false, _), (false, _), (false, .none_)]
    refine .block ?_
    refine .seq ?_
    refine .seq ?_
    refine .region rfl ?_
    refine .p (.move (.t rfl) (.p (.ldR (fun x => x) tyR25 (.t rfl) (.s .z) (fun _ => rfl) ?_)))
    refine .p (.lenOwn Tryd.underlying25 rfl (.s (.s .z)) (.p (.geq (.t rfl) (.t rfl) ?_)))
    refine .nil ?_
    refine .condP (.t rfl) (fun hc21 => ?_) (fun hc21 => ?_)
    · refine .exit ?_
      have e := xorL_ge (xorB key nb) b (k := 32 * k) (by omega)
      rw [e]
      refine .inr ⟨rfl, ?_⟩
      exact (.cons (.s .z) (.cons (.s (.s .z)) .nil))
    · refine .skip ?_
      refine .seq ?_
      refine .region rfl ?_
      refine .p (.move (.t rfl) (.p (.assign (.t rfl) ?_)))
      refine .nil ?_
      refine .block ?_
      refine .loopR (α := Nat) [(7, _), (8, _), (9, _)] (fun x R => (10, .v ((k : Int) * 32 + (x : Int))) :: R) (fun x => [(false, .ob (ptr b9 0) (blockAt key nb k)), (false, .ob (ptr b7 0) (SlRaw.mk u12)), (false, .own 5 u12 (xorL (xorB key nb) b (32 * k + x))), (false, .none_)]) (fun x => x ≤ 32 ∧ 32 * k + x ≤ b.length) (fun x => b.length - (32 * k + x)) (0) (.cons rfl (.cons rfl (.cons rfl (.nil _)))) ?_ (.cons rfl (.cons rfl (.cons rfl (.cons rfl (.nil _))))) (rfl) fun x hF => ?_
      · exact ⟨by omega, by omega⟩
      obtain ⟨hx1, hx2⟩ := hF
      have hl7 := xorL_length (xorB key nb) b (32 * k + x)
      refine .seq ?_
      refine .seq ?_
      refine .region rfl ?_
      refine .p (.move (.t rfl) (.p (.ldR (fun x => x) tyR25 (.t rfl) (.s .z) (fun _ => rfl) ?_)))
      refine .p (.lenOwn Tryd.underlying25 rfl (.s (.s .z)) (.p (.lss (.t rfl) (.t rfl) (.p (.move (.t rfl) ?_)))))
      refine .go 27 rfl (.t rfl) (fun hg28 => .move (.t rfl) rfl) ?_
      refine .go 27 rfl (.t rfl) (fun hg29 => .move (.t rfl) rfl) ?_
      refine .go 27 rfl (.t rfl) (fun hg30 => .add (.o rfl (beq_iff_eq.2 hg30)) (.i rfl) (by first | omega | (simp; omega) | (have := hg30; simp at this; omega)) (by first | omega | (simp; omega) | (have := hg30; simp at this; omega)) rfl) ?_
      refine .go 27 rfl (.t rfl) (fun hg31 => .lss (.o rfl (beq_iff_eq.2 hg31)) (.o rfl (beq_iff_eq.2 hg31)) rfl) ?_
      refine .p (.pickAnd (.t rfl) (fun hp => (.o rfl (beq_iff_eq.2 hp))) ?_)
      refine .nil ?_
      refine .cond (.t rfl) (fun hc32 => ?_) (fun hc32 => ?_)
      · refine .skip ?_
        refine .seq ?_
        refine .block ?_
        refine .draw (by kernel_rfl) 11 [[], [], [(35, 0), (36, 1)], [(37, 2)], [], [], [(39, 4), (40, 5)], [(41, 6)], [(42, 7)], [(38, 3), (43, 8)], [(35, 0), (36, 1)]] rfl (by kernel_rfl) rfl ?_
        refine ⟨_, OpP.ldR (fun x => x) tyR25 (.t rfl) (.s .z) (fun _ => rfl) rfl, ?_⟩
        refine ⟨_, OpP.move (.t rfl) rfl, ?_⟩
        refine ⟨_, OpP.idxOwn ty5 Tryd.underlying25 rfl (.s (.s .z)) (.t rfl) (by first | omega | (simp; done) | (simp; omega) | (simp at *; omega)) (by first | omega | (simp; done) | (simp; omega) | (simp at *; omega)) rfl, ?_⟩
        refine ⟨_, OpP.ldEW ty5 (.t rfl) (.s (.s .z)) (by first | omega | (simp; done) | (simp; omega) | (simp at *; omega)) rfl, ?_⟩
        refine ⟨_, OpP.move (.t rfl) rfl, ?_⟩
        refine ⟨_, OpP.move (.t rfl) rfl, ?_⟩
        refine ⟨_, OpP.sub (.t rfl) (.t rfl) (by first | omega | (simp; done) | (simp; omega) | (simp at *; omega)) (by first | omega | (simp; done) | (simp; omega) | (simp at *; omega)) rfl, ?_⟩
        refine ⟨_, OpP.idxW ar24 (.t rfl) (.t rfl) (by first | omega | (simp; done) | (simp; omega) | (simp at *; omega)) (by first | omega | (simp; done) | (simp; omega) | (simp at *; omega)) rfl, ?_⟩
        refine ⟨_, OpP.ldL ty5 (.t rfl) .z rfl, ?_⟩
        refine ⟨_, OpP.xor8 (.t rfl) (.t rfl) rfl, ?_⟩
        refine ⟨_, OpP.idxOwn ty5 Tryd.underlying25 rfl (.s (.s .z)) (.t rfl) (by first | omega | (simp; done) | (simp; omega) | (simp at *; omega)) (by first | omega | (simp; done) | (simp; omega) | (simp at *; omega)) rfl, ?_⟩
        show wpB _ _ _ _ _ _ ((45, _) :: (44, _) :: (43, _) :: (42, _) :: (41, _) :: (40, _) :: (39, _) :: (38, _) :: (37, _) :: (36, _) :: (35, _) :: _) _
        refine .n (.stEW ty5 (.t rfl) (.t rfl) (.s (.s .z)) (by first | omega | (simp; done) | (simp; omega) | (simp at *; omega)) ?_)
        refine .nil ?_
        refine .region rfl ?_
        refine .p (.move (.t rfl) (.p (.add (.t rfl) (.i rfl) (by first | omega | (simp; done) | (simp; omega) | (simp at *; omega)) (by first | omega | (simp; done) | (simp; omega) | (simp at *; omega)) (.p (.assign (.t rfl) ?_)))))
        refine .nil ?_
        refine ⟨x + 1, .cons rfl (.cons rfl (.cons rfl (.cons rfl (.nil _)))), congrArg (fun q => [_, _, (false, Blk.own _ _ q), _]) (xor_step key nb b k x (by simp at hc32; omega) (by simp at hc32; omega) _ _), ?_, by simp at hc32; omega⟩
        simp at hc32; exact ⟨by omega, by omega⟩
      · refine .exit ?_
        have e := xor_round (xorB key nb) b k x (by simp at hc32; omega)
        rw [e]
        refine .inl ⟨rfl, by omega, ?_⟩
        exact (.cons (.s .z) (.cons (.s (.s .z)) .nil))
  · show wpF _ _ _ _ _ _ [(true, _), (true, _), (false, .none_)]
    refine .seq ?_
    refine .region rfl ?_
    refine .p (.ldR (fun x => x) tyR25 (.t rfl) .z (fun _ => rfl) ?_)
    refine .p (.assign (.t rfl) ?_)
    refine .nil ?_
    refine .ret ?_
    refine ⟨_, .r1 rfl (.tmp rfl), ?_⟩
    refine ⟨_, .cons (.s .z) (.nil), ?_⟩
    exact ⟨u12, rfl, rfl⟩
end Go.Proofs.YtkjpkdpnlioffaaDoor
set_option maxRecDepth 1000000
set_option linter.unusedVariables false
set_option linter.unusedSimpArgs false
namespace Go.Proofs.YtkjpkdpnlioffaaDoor
open Go.Fl Go.Ab Go.Mac Go.Sha
theorem box1_c (k : Tag) (n : Int) (p : List UInt8) (x : G_api_Sealed) : FunA gl Tryd.prog 69 [.v x, .p k, .p n, .p p] (fun r => r = .v (sealEq k n p x)) := by
  refine FunA.intro Tryd.func69 rfl (by kernel_rfl) 22 rfl rfl _ rfl fun C hC hG => ?_
  refine .seq ?_
  refine .region rfl ?_
  refine .h (.box (.t rfl) fun b4 => .p (.assign .b ?_))
  refine .nil ?_
  refine .seq ?_
  refine .region rfl ?_
  refine .p (.fldW G_api_Sealed.l0 fd64_0 rfl (.t rfl) (.p (.ldF (fun x => x.Key) ty24 (.t rfl) .z (fun _ => rfl) (.p (.ldP ty24 (.t rfl) (.p (.eqlA8 Tryd.underlying24 sz5 Tryd.underlying5 gd24 (.t rfl) (.t rfl) (.p (.move (.t rfl) ?_)))))))))
  refine .go 10 rfl (.t rfl) (fun hg11 => .fldW G_api_Sealed.l1 fd64_1 rfl (.t rfl) rfl) ?_
  refine .go 10 rfl (.t rfl) (fun hg12 => .ldF (fun x => x.Nonce) ty3 (.o rfl (beq_iff_eq.2 hg12)) .z (fun _ => rfl) rfl) ?_
  refine .go 10 rfl (.t rfl) (fun hg13 => .ldP ty3 (.t rfl) rfl) ?_
  refine .go 10 rfl (.t rfl) (fun hg14 => .eqlI (.o rfl (beq_iff_eq.2 hg14)) (.o rfl (beq_iff_eq.2 hg14)) rfl) ?_
  refine .p (.pickAnd (.t rfl) (fun hp => (.o rfl (beq_iff_eq.2 hp))) (.p (.move (.t rfl) ?_)))
  refine .go 16 rfl (.t rfl) (fun hg17 => .fldW G_api_Sealed.l2 fd64_2 rfl (.t rfl) rfl) ?_
  refine .go 16 rfl (.t rfl) (fun hg18 => .ldF (fun x => x.Plain) ty25 (.o rfl (beq_iff_eq.2 hg18)) .z (fun _ => rfl) rfl) ?_
  refine .go 16 rfl (.t rfl) (fun hg19 => .ldP ty25 (.t rfl) rfl) ?_
  refine .go 16 rfl (.t rfl) (fun hg20 => .call1 hG (bytesEqual_c _ _) (.cons (.o rfl (beq_iff_eq.2 hg20)) (.cons (.o rfl (beq_iff_eq.2 hg20)) .nil)) rfl) ?_
  refine .p (.pickAnd (.t rfl) (fun hp => (.o rfl (beq_iff_eq.2 hp))) (.p (.assign (.t rfl) ?_)))
  refine .nil ?_
  refine .ret ?_
  refine ⟨_, .r1 rfl (.tmp rfl), ?_⟩
  rfl
theorem indexSealed_c (l : List G_api_Sealed) (p : G_api_Sealed → Bool) : FunA gl Tryd.prog 68 [.v l, .clo1 Tryd.prog p] (fun r => r = .v (idx l p)) := by
  refine FunA.intro Tryd.func68 rfl (by kernel_rfl) 19 rfl rfl _ rfl fun C hC hG => ?_
  refine .seq ?_
  refine .region rfl ?_
  refine .p (.assign (.i rfl) ?_)
  refine .nil ?_
  refine .seq ?_
  refine .seq ?_
  refine .lenLe 0 rfl fun hl0 => ?_
  refine .region rfl ?_
  refine .p (.move (.t rfl) (.p (.len Tryd.underlying31 (.t rfl) (.p (.move (.i rfl) ?_)))))
  refine .nil ?_
  refine .block ?_
  refine .loopR (α := Nat) [(0, _), (1, _), (7, _)] (fun k R => (8, .v (k : Int)) :: R) (fun k => []) (fun k => k ≤ l.length ∧ ∀ j (hj : j < l.length), j < k → p l[j] = false) (fun k => l.length - k) (0) (.cons rfl (.cons rfl (.cons rfl (.nil _)))) ?_ (.cons rfl (.cons rfl (.cons rfl (.cons rfl (.nil _))))) (rfl) fun k hF => ?_
  · simp
  obtain ⟨h1, h2⟩ := hF
  refine .seq ?_
  refine .region rfl ?_
  refine .p (.lss (.t rfl) (.t rfl) ?_)
  refine .nil ?_
  refine .seq ?_
  refine .condP (.t rfl) (fun hc9 => ?_) (fun hc9 => ?_)
  · refine .skip ?_
    refine .seq ?_
    refine .block ?_
    refine .seq ?_
    refine .region rfl ?_
    refine .p (.move (.t rfl) (.p (.assign (.t rfl) ?_)))
    refine .nil ?_
    refine .seq ?_
    refine .region rfl ?_
    refine .p (.move (.t rfl) (.p (.move (.t rfl) (.p (.move (.t rfl) (.p (.idx ty64 Tryd.underlying31 (.t rfl) (.t rfl) (by first | omega | (simp; done) | (simp; omega) | (simp at *; omega)) (by first | omega | (simp; done) | (simp; omega) | (simp at *; omega)) (.p (.ldP ty64 (.t rfl) (.p (.callClo1 rfl (.t rfl) ?_)))))))))))
    refine .nil ?_
    refine .cond (.t rfl) (fun hc16 => ?_) (fun hc16 => ?_)
    · refine .seq ?_
      refine .region rfl ?_
      refine .p (.move (.t rfl) (.p (.assign (.t rfl) ?_)))
      refine .nil ?_
      refine .ret ?_
      refine ⟨_, .r1 rfl (.tmp rfl), ?_⟩
      rw [idx_at (by omega) (by simpa using hc16) h2]
    · refine .skip ?_
      refine .region rfl ?_
      refine .p (.add (.t rfl) (.i rfl) (by first | omega | (simp; done) | (simp; omega) | (simp at *; omega)) (by first | omega | (simp; done) | (simp; omega) | (simp at *; omega)) (.p (.move (.t rfl) ?_)))
      refine .nil ?_
      refine ⟨k + 1, .cons rfl (.cons rfl (.cons rfl (.cons rfl (.nil _)))), rfl, ?_, by omega⟩
      refine ⟨by omega, fun j hj hjk => ?_⟩; rcases Nat.lt_or_ge j k with h | h; exact h2 j hj h; (obtain rfl : j = k := by omega); simpa using hc16
  · refine .exit ?_
    refine .seq ?_
    refine .region rfl ?_
    refine .p (.assign (.i rfl) ?_)
    refine .nil ?_
    refine .ret ?_
    refine ⟨_, .r1 rfl (.tmp rfl), ?_⟩
    rw [idx_none fun j hj => h2 j hj (by omega)]
def mkBox (a : Alg) (e : Int) (k : Tag) (n : Int) (p : List UInt8) (rb : List UInt8) : List UInt8 × Alg × Int := if e ≠ 0 then ([], a, e) else
  match a.Boxes.find? (sealEq k n p) with
  | some x => (x.Box, a, 0)
  | none => if 65536 ≤ a.Boxes.length then ([], a, 2) else
    ((if a.Free then (symTag 98 (a.Boxes.length + 1)).l ++ List.replicate (p.length + 8) 0 else rb),
      ⟨a.Free, a.Seed, a.Fresh, a.Macs, a.Boxes ++ [⟨k, n, p, if a.Free then (symTag 98 (a.Boxes.length + 1)).l ++ List.replicate (p.length + 8) 0 else rb⟩]⟩, 0)
theorem mkBox_err {a : Alg} {e : Int} {k : Tag} {n : Int} {p rb : List UInt8} (h : e ≠ 0) : mkBox a e k n p rb = ([], a, e) := by unfold mkBox; rw [if_pos h]
theorem mkBox_at {a : Alg} {k : Tag} {n : Int} {p rb : List UInt8} (hi : 0 ≤ idx a.Boxes (sealEq k n p)) (h2 : (idx a.Boxes (sealEq k n p)).toNat < a.Boxes.length) : mkBox a 0 k n p rb = (a.Boxes[(idx a.Boxes (sealEq k n p)).toNat].Box, a, 0) := by
  unfold mkBox; rw [if_neg (by simp), idx_get hi h2]
theorem mkBox_full {a : Alg} {k : Tag} {n : Int} {p rb : List UInt8} (hf : a.Boxes.find? (sealEq k n p) = none) (h : 65536 ≤ a.Boxes.length) : mkBox a 0 k n p rb = ([], a, 2) := by
  unfold mkBox; rw [if_neg (by simp), hf]; simp only []; rw [if_pos h]
theorem mkBox_new {a : Alg} {k : Tag} {n : Int} {p rb : List UInt8} (hf : a.Boxes.find? (sealEq k n p) = none) (h : ¬ 65536 ≤ a.Boxes.length) : mkBox a 0 k n p rb =
    ((if a.Free then (symTag 98 (a.Boxes.length + 1)).l ++ List.replicate (p.length + 8) 0 else rb),
      ⟨a.Free, a.Seed, a.Fresh, a.Macs, a.Boxes ++ [⟨k, n, p, if a.Free then (symTag 98 (a.Boxes.length + 1)).l ++ List.replicate (p.length + 8) 0 else rb⟩]⟩, 0) := by
  unfold mkBox; rw [if_neg (by simp), hf]; simp only []; rw [if_neg h]
theorem Box_err (w : Value) (a : Alg) (e : Int) (um ub : Value) (B1 B2 : Blk) (k : Tag) (n : Int) (p : List UInt8) (he : e ≠ 0) : FunH gl Tryd.prog 47 [mp w, .v k, .v n, .v p, .any] [.ob w (rawMk a e um ub), B1, B2]
    (fun r Hs => r = .v ([] : List UInt8) ∧ Hs = [.ob w (rawMk a e um ub), B1, B2]) := by
  refine FunH.introS Tryd.func47 rfl (by kernel_rfl) 84 rfl rfl _ rfl _ rfl fun C hC hG => ?_
  refine .seq ?_
  refine .region rfl ?_
  refine .h (.box (.t rfl) fun b6 => .h (.box (.t rfl) fun b7 => .h (.box (.t rfl) fun b8 => .p (.assign (.nilS (α := UInt8)) ?_))))
  refine .nil ?_
  refine .seq ?_
  refine .seq ?_
  refine .region rfl ?_
  refine .p (.move (.t rfl) (.p (.nilCheckL (.t rfl) (.p (.fldW G_algebra_MakerR.l1 fd90_1 rfl (.t rfl) (.p (.ldF (fun x => x.e) ty39 (.t rfl) (.s (.s (.s .z))) (fun _ => rfl) (.p (.neqI (.t rfl) (.i rfl) ?_)))))))))
  refine .nil ?_
  refine .condP (.t rfl) (fun hc19 => ?_) (fun hc19 => (by exfalso; exact hc19 he))
  refine .seq ?_
  refine .region rfl ?_
  refine .p (.assign (.nilS (α := UInt8)) ?_)
  refine .nil ?_
  refine .ret ?_
  refine ⟨_, .r1 rfl (.tmp rfl), ?_⟩
  refine ⟨_, .cons (.s (.s (.s .z))) (.cons (.s (.s (.s (.s .z)))) (.cons (.s (.s (.s (.s (.s .z))))) (.nil))), ?_⟩
  exact ⟨rfl, rfl⟩
theorem Box_raw (w : Value) (a : Alg) (um ub : Value) (B : Blk) (k : Tag) (n : Int) (p rb : List UInt8) (hl : a.Boxes.length ≤ 1000000) (hp : p.length ≤ 256) (hrb : rb.length ≤ 1000) (hbx : ∀ x ∈ a.Boxes, x.Box.length ≤ 1000000) :
    FunH gl Tryd.prog 47 [mp w, .v k, .v n, .v p, .clo0 Tryd.prog (.v rb)] [.ob w (rawMk a 0 um ub), B, gsB ub a]
    (fun r Hs => ∃ ub', r = .v (mkBox a 0 k n p rb).1 ∧ Hs = [.ob w (rawMk (mkBox a 0 k n p rb).2.1 (mkBox a 0 k n p rb).2.2 um ub'), B, gsB ub' (mkBox a 0 k n p rb).2.1]) := by
  refine FunH.introS Tryd.func47 rfl (by kernel_rfl) 84 rfl rfl _ rfl _ rfl fun C hC hG => ?_
  refine .seq ?_
  refine .region rfl ?_
  refine .h (.box (.t rfl) fun b6 => .h (.box (.t rfl) fun b7 => .h (.box (.t rfl) fun b8 => .p (.assign (.nilS (α := UInt8)) ?_))))
  refine .nil ?_
  refine .seq ?_
  refine .seq ?_
  refine .frzOb hC (.s (.s .z)) ?_
  refine .asP 6 rfl (.s (.s .z)) ?_
  refine .frzOb hC (.s .z) ?_
  refine .asP 7 rfl (.s .z) ?_
  refine .frzOb hC .z ?_
  refine .asP 8 rfl .z ?_
  refine .region rfl ?_
  refine .p (.move (.t rfl) (.p (.nilCheckL (.t rfl) (.p (.fldW G_algebra_MakerR.l1 fd90_1 rfl (.t rfl) (.p (.ldF (fun x => x.e) ty39 (.t rfl) (.s (.s (.s .z))) (fun _ => rfl) (.p (.neqI (.t rfl) (.i rfl) ?_)))))))))
  refine .nil ?_
  refine .condP (.t rfl) (fun hc19 => (by exfalso; exact hc19 rfl)) (fun hc19 => ?_)
  refine .skip ?_
  refine .seq ?_
  refine .region rfl ?_
  refine .p (.move (.t rfl) (.p (.nilCheckL (.t rfl) (.p (.fldW G_algebra_MakerR.l0 fd90_0 rfl (.t rfl) (.p (.fldL G_api_AlgebraR.l4 fd33_4 rfl (.t rfl) (.p (.ldR (fun x => x.a.Boxes) tyR31 (.t rfl) (.s (.s (.s .z))) (fun _ => rfl) ?_)))))))))
  refine .p (.mkClo1 hG (fun x => box1_c k n p x) (.cons (.t rfl) (.cons (.t rfl) (.cons (.t rfl) .nil))) (.p (.lend1 hG (indexSealed_c _ _) (.cons (.gs rfl (.s (.s (.s (.s (.s .z)))))) (.cons (.e (.t rfl)) .nil)) (by first | exact .v | exact .t2 .v .v | exact .t3 .v .v .v) (.p (.assign (.t rfl) ?_)))))
  refine .nil ?_
  refine .seq ?_
  refine .seq ?_
  refine .region rfl ?_
  refine .p (.move (.t rfl) (.p (.geq (.t rfl) (.i rfl) ?_)))
  refine .nil ?_
  refine .condP (.t rfl) (fun hc28 => ?_) (fun hc28 => ?_)
  · refine .seq ?_
    refine .gsCases (.s (.s (.s (.s (.s .z))))) ?_ ?_
    · have hi5 : 0 ≤ idx a.Boxes (sealEq k n p) := hc28
      have hl5 := idx_lt hi5
      have hb5 := hbx _ (List.getElem_mem (l := a.Boxes) (n := (idx a.Boxes (sealEq k n p)).toNat) (by omega))
      refine .region rfl ?_
      refine .p (.move (.t rfl) (.p (.nilCheckL (.t rfl) (.p (.fldW G_algebra_MakerR.l0 fd90_0 rfl (.t rfl) (.p (.fldL G_api_AlgebraR.l4 fd33_4 rfl (.t rfl) (.p (.ldR (fun x => x.a.Boxes) tyR31 (.t rfl) (.s (.s (.s .z))) (fun _ => rfl) ?_)))))))))
      refine .p (.move (.t rfl) (.p (.idx ty64 Tryd.underlying31 (.fzC rfl (.s (.s (.s (.s (.s .z)))))) (.t rfl) (by first | omega | (simp; done) | (simp; omega) | (simp at *; omega)) (by first | omega | (simp; done) | (simp; omega) | (simp at *; omega)) (.p (.fldPF G_api_Sealed.l3 (fun x => x.Box) fd64_3 rfl (fun _ => rfl) (.t rfl) (.p (.ldP ty25 (.t rfl) (.p (.call1 hG (bytesClone_c _ hb5) (.cons (.t rfl) .nil) (.p (.assign (.t rfl) ?_)))))))))))
      refine .nil ?_
      refine .ret ?_
      refine ⟨_, .r1 rfl (.tmp rfl), ?_⟩
      refine ⟨_, .cons (.s (.s (.s .z))) (.cons (.s (.s (.s (.s .z)))) (.gsC (.s (.s (.s (.s (.s .z))))) (.nil))), ?_⟩
      rw [mkBox_at hi5 (by omega)]; exact ⟨ub, rfl, rfl⟩
    · have hi5 : 0 ≤ idx a.Boxes (sealEq k n p) := hc28
      have hl5 := idx_lt hi5
      have hb5 := hbx _ (List.getElem_mem (l := a.Boxes) (n := (idx a.Boxes (sealEq k n p)).toNat) (by omega))
      refine .region rfl ?_
      refine .p (.move (.t rfl) (.p (.nilCheckL (.t rfl) (.p (.fldW G_algebra_MakerR.l0 fd90_0 rfl (.t rfl) (.p (.fldL G_api_AlgebraR.l4 fd33_4 rfl (.t rfl) (.p (.ldR (fun x => x.a.Boxes) tyR31 (.t rfl) (.s (.s (.s .z))) (fun _ => rfl) ?_)))))))))
      refine .p (.move (.t rfl) (.p (.idxOwn ty64 Tryd.underlying31 rfl (.s (.s (.s (.s (.s .z))))) (.t rfl) (by first | omega | (simp; done) | (simp; omega) | (simp at *; omega)) (by first | omega | (simp; done) | (simp; omega) | (simp at *; omega)) (.p (.fldE G_api_Sealed.l3 fd64_3 rfl (.t rfl) (.p (.ldE ty25 (.t rfl) (.s (.s (.s (.s (.s .z))))) (by first | omega | (simp; done) | (simp; omega) | (simp at *; omega)) (.p (.call1 hG (bytesClone_c _ hb5) (.cons (.t rfl) .nil) (.p (.assign (.t rfl) ?_)))))))))))
      refine .nil ?_
      refine .ret ?_
      refine ⟨_, .r1 rfl (.tmp rfl), ?_⟩
      refine ⟨_, .cons (.s (.s (.s .z))) (.cons (.s (.s (.s (.s .z)))) (.gsO (.s (.s (.s (.s (.s .z))))) (.nil))), ?_⟩
      rw [mkBox_at hi5 (by omega)]; exact ⟨ub, rfl, rfl⟩
  · refine .skip ?_
    refine .seq ?_
    refine .region rfl ?_
    refine .p (.move (.t rfl) (.p (.nilCheckL (.t rfl) (.p (.fldW G_algebra_MakerR.l0 fd90_0 rfl (.t rfl) (.p (.fldL G_api_AlgebraR.l4 fd33_4 rfl (.t rfl) (.p (.ldR (fun x => x.a.Boxes) tyR31 (.t rfl) (.s (.s (.s .z))) (fun _ => rfl) ?_)))))))))
    refine .p (.lenGS Tryd.underlying31 rfl (.s (.s (.s (.s (.s .z))))) (.p (.add (.t rfl) (.i rfl) (by first | omega | (simp; done) | (simp; omega) | (simp at *; omega)) (by first | omega | (simp; done) | (simp; omega) | (simp at *; omega)) (.p (.assign (.t rfl) ?_)))))
    refine .nil ?_
    refine .seq ?_
    refine .seq ?_
    refine .region rfl ?_
    refine .p (.move (.t rfl) (.p (.gtr (.t rfl) (.i rfl) ?_)))
    refine .nil ?_
    refine .condP (.t rfl) (fun hc47 => ?_) (fun hc47 => ?_)
    · refine .seq ?_
      refine .region rfl ?_
      refine .p (.move (.t rfl) (.h (.callM hG (Fail_raw _ _ _) (.s (.s (.s .z))) (.cons (.t rfl) (.cons (.i rfl) .nil)) (by rintro _ _ rfl; exact ⟨_, rfl⟩) fun r49 B49 hr49 => ?_)))
      cases hr49
      refine .nil ?_
      refine .seq ?_
      refine .region rfl ?_
      refine .p (.assign (.nilS (α := UInt8)) ?_)
      refine .nil ?_
      refine .ret ?_
      refine ⟨_, .r1 rfl (.tmp rfl), ?_⟩
      refine ⟨_, .cons (.s (.s (.s .z))) (.cons (.s (.s (.s (.s .z)))) (.cons (.s (.s (.s (.s (.s .z))))) (.nil))), ?_⟩
      have hf := idx_neg hc28
      rw [mkBox_full hf (by simp at hc47; omega)]; exact ⟨ub, rfl, rfl⟩
    · refine .skip ?_
      refine .seq ?_
      refine .region rfl ?_
      refine .p (.move (.t rfl) (.p (.call1 hG (Symbol_c _ _) (.cons (.u8 98 rfl) (.cons (.t rfl) .nil)) (.h (.alloc ty24 fun b13 => .n (.stW ty24 (.t rfl) (.t rfl) .z ?_))))))
      refine .nil ?_
      refine .seq ?_
      refine .frzOb hC .z ?_
      refine .asP 13 rfl .z ?_
      refine .drawC (by kernel_rfl) 6 [[], [], [(53, 1)], [(54, 2)], [(52, 0), (55, 3)], [(56, 4)]] [0, 4, 5] rfl (by kernel_rfl) rfl (by kernel_rfl) (by decide) ?_
      refine .inl ?_
      refine ⟨_, fun H => OpP.ldP ty25 (.t rfl) rfl, ?_⟩
      refine ⟨_, fun H => OpP.len Tryd.underlying25 (.t rfl) rfl, ?_⟩
      refine ⟨_, fun H => OpP.add (.t rfl) (.i rfl) (by first | omega | (simp; done) | (simp; omega) | (simp at *; omega)) (by first | omega | (simp; done) | (simp; omega) | (simp at *; omega)) rfl, ?_⟩
      refine .inl ?_
      refine .inl ?_
      refine OpH.ofP (OpP.slArrPC (by decide) ar24 (.t rfl) ?_)
      refine OpH.ofP (OpP.appendZC Tryd.underlying25 one5 rfl rfl rfl (fun _ => rfl) Tryd.underlying3 (.t rfl) (.t rfl) (by first | omega | (simp; done) | (simp; omega) | (simp at *; omega)) (by first | omega | (simp; done) | (simp; omega) | (simp at *; omega)) (by first | omega | (simp; done) | (simp; omega) | (simp at *; omega)) ?_)
      refine OpH.ofP (OpP.assign (.t rfl) ?_)
      show wpB _ _ _ _ _ _ ((14, _) :: (56, _) :: (55, _) :: (54, _) :: (53, _) :: (52, _) :: _) _
      refine .nil ?_
      refine .seq ?_
      refine .seq ?_
      refine .region rfl ?_
      refine .p (.move (.t rfl) (.p (.nilCheckL (.t rfl) (.p (.fldW G_algebra_MakerR.l0 fd90_0 rfl (.t rfl) (.p (.fldL G_api_AlgebraR.l0 fd33_0 rfl (.t rfl) (.p (.ldF (fun x => x.a.Free) ty4 (.t rfl) (.s (.s (.s (.s .z)))) (fun _ => rfl) (.p (.not (.t rfl) ?_)))))))))))
      refine .nil ?_
      refine .cond (.t rfl) (fun hc62 => ?_) (fun hc62 => ?_)
      · refine .region rfl ?_
        refine .p (.move (.t rfl) (.p (.callClo0 rfl  (.p (.assign (.t rfl) ?_)))))
        refine .nil ?_
        refine .seq ?_
        refine .drawCF [false, false, false, false, false, false, true] (by kernel_rfl) 18 [[], [], [(66, 1)], [(67, 2)], [(68, 3)], [(69, 4)], [], [], [], [(73, 8)], [], [(75, 10)], [(71, 6), (72, 7), (74, 9), (76, 11)], [(77, 12)], [(70, 5), (78, 13)], [(65, 0)], [(80, 15)], [(81, 16)]] [5, 14] rfl (by kernel_rfl) rfl (by kernel_rfl) (by decide) ?_
        refine ⟨_, fun H => OpP.move (.t rfl) rfl, ?_⟩
        refine ⟨_, fun H => OpP.move (.t rfl) rfl, ?_⟩
        refine ⟨_, fun H => OpP.nilCheckL (.t rfl) rfl, ?_⟩
        refine ⟨_, fun H => OpP.fldW G_algebra_MakerR.l0 fd90_0 rfl (.t rfl) rfl, ?_⟩
        refine ⟨_, fun H => OpP.fldL G_api_AlgebraR.l4 fd33_4 rfl (.t rfl) rfl, ?_⟩
        refine .inl ?_
        refine ⟨_, fun H => OpP.ldP ty24 (.t rfl) rfl, ?_⟩
        refine ⟨_, fun H => OpP.ldP ty3 (.t rfl) rfl, ?_⟩
        refine ⟨_, fun H => OpP.ldP ty25 (.t rfl) rfl, ?_⟩
        refine ⟨_, fun H => OpP.call1 hG (bytesClone_c _ (by first | omega | (simp; done) | (simp; omega) | (simp at *; omega))) (.cons (.t rfl) .nil) rfl, ?_⟩
        refine ⟨_, fun H => OpP.move (.t rfl) rfl, ?_⟩
        refine ⟨_, fun H => OpP.call1 hG (bytesClone_c _ (by first | omega | (simp; done) | (simp; omega) | (simp at *; omega))) (.cons (.t rfl) .nil) rfl, ?_⟩
        refine ⟨_, fun H => OpP.bS4 G_api_Sealed.l0 G_api_Sealed.l1 G_api_Sealed.l2 G_api_Sealed.l3 rfl ty64 fo64 (fun c0 c1 c2 c3 => (⟨c0, c1, c2, c3⟩ : G_api_Sealed)) (fun _ _ _ _ => rfl) rfl rfl rfl rfl rfl (.t rfl) (.t rfl) (.t rfl) (.t rfl) rfl, ?_⟩
        refine ⟨_, fun H => OpP.buildSliceF (α := G_api_Sealed) ty64 Tryd.underlying31 (.cons (.t rfl) .nil) rfl (by decide) rfl, ?_⟩
        refine .inl ?_
        refine ⟨_, fun H => OpP.nilCheckL (.t rfl) rfl, ?_⟩
        refine ⟨_, fun H => OpP.fldW G_algebra_MakerR.l0 fd90_0 rfl (.t rfl) rfl, ?_⟩
        refine ⟨_, fun H => OpP.fldL G_api_AlgebraR.l4 fd33_4 rfl (.t rfl) rfl, ?_⟩
        refine ⟨⟨([], fun k => List.getD [(true, .none_), (true, .none_), (true, .none_), (true, .none_), (true, .none_), (true, .none_), _] k (true, .none_)), rfl⟩, ?_⟩
        refine OpH.ofP (OpP.ldR (fun x => x.a.Boxes) tyR31 (.t rfl) (.s (.s (.s (.s .z)))) (fun _ => rfl) ?_)
        refine ⟨⟨([], fun k => List.getD [(true, .none_), (true, .none_), (true, .none_), (true, .none_), (true, .none_), (true, .none_), _] k (true, .none_)), rfl⟩, ?_⟩
        refine OpH.appendGS st31 (.inl ⟨_, Tryd.underlying31⟩) rfl (.s (.s (.s (.s (.s (.s .z)))))) (.v (.c rfl)) (by first | omega | (simp; done) | (simp; omega) | (simp at *; omega)) (by first | omega | (simp; done) | (simp; omega) | (simp at *; omega)) fun w79 => ?_
        refine ⟨⟨([], fun k => List.getD [(true, .none_), (true, .none_), (true, .none_), (true, .none_), (true, .none_), (true, .none_), _] k (true, .none_)), rfl⟩, ?_⟩
        show wpB _ _ _ _ _ _ ((82, _) :: (81, _) :: (80, _) :: (79, _) :: (78, _) :: (77, _) :: (76, _) :: (75, _) :: (74, _) :: (73, _) :: (72, _) :: (71, _) :: (70, _) :: (69, _) :: (68, _) :: (67, _) :: (66, _) :: (65, _) :: _) _
        refine .n (.stF (fun y x => { x with a.Boxes := y }) tyR31 (.t rfl) (.gs rfl (.s (.s (.s (.s (.s (.s .z))))))) (.s (.s (.s (.s .z)))) (fun _ _ => rfl) ?_)
        refine .nil ?_
        refine .seq ?_
        refine .region rfl ?_
        refine .p (.move (.t rfl) (.p (.assign (.t rfl) ?_)))
        refine .nil ?_
        refine .ret ?_
        refine ⟨_, .r1 rfl (.tmp rfl), ?_⟩
        refine ⟨_, .cons (.s (.s (.s (.s .z)))) (.cons (.s (.s (.s (.s (.s .z))))) (.cons (.s (.s (.s (.s (.s (.s .z)))))) (.nil))), ?_⟩
        have hf := idx_neg hc28
        have hfr : ¬ (a.Free = true) := by have h9 : (!a.Free) = true := hc62; simpa using h9
        rw [mkBox_new hf (by simp at hc47; omega)]
        simp only [if_neg hfr]
        exact ⟨w79, by trivial, rfl⟩
      · refine .skip ?_
        refine .seq ?_
        refine .drawCF [false, false, false, false, false, false, true] (by kernel_rfl) 18 [[], [], [(66, 1)], [(67, 2)], [(68, 3)], [(69, 4)], [], [], [], [(73, 8)], [], [(75, 10)], [(71, 6), (72, 7), (74, 9), (76, 11)], [(77, 12)], [(70, 5), (78, 13)], [(65, 0)], [(80, 15)], [(81, 16)]] [5, 14] rfl (by kernel_rfl) rfl (by kernel_rfl) (by decide) ?_
        refine ⟨_, fun H => OpP.move (.t rfl) rfl, ?_⟩
        refine ⟨_, fun H => OpP.move (.t rfl) rfl, ?_⟩
        refine ⟨_, fun H => OpP.nilCheckL (.t rfl) rfl, ?_⟩
        refine ⟨_, fun H => OpP.fldW G_algebra_MakerR.l0 fd90_0 rfl (.t rfl) rfl, ?_⟩
        refine ⟨_, fun H => OpP.fldL G_api_AlgebraR.l4 fd33_4 rfl (.t rfl) rfl, ?_⟩
        refine .inl ?_
        refine ⟨_, fun H => OpP.ldP ty24 (.t rfl) rfl, ?_⟩
        refine ⟨_, fun H => OpP.ldP ty3 (.t rfl) rfl, ?_⟩
        refine ⟨_, fun H => OpP.ldP ty25 (.t rfl) rfl, ?_⟩
        refine ⟨_, fun H => OpP.call1 hG (bytesClone_c _ (by first | omega | (simp; done) | (simp; omega) | (simp at *; omega))) (.cons (.t rfl) .nil) rfl, ?_⟩
        refine ⟨_, fun H => OpP.move (.t rfl) rfl, ?_⟩
        refine ⟨_, fun H => OpP.call1 hG (bytesClone_c _ (by first | omega | (simp; done) | (simp; omega) | (simp at *; omega))) (.cons (.t rfl) .nil) rfl, ?_⟩
        refine ⟨_, fun H => OpP.bS4 G_api_Sealed.l0 G_api_Sealed.l1 G_api_Sealed.l2 G_api_Sealed.l3 rfl ty64 fo64 (fun c0 c1 c2 c3 => (⟨c0, c1, c2, c3⟩ : G_api_Sealed)) (fun _ _ _ _ => rfl) rfl rfl rfl rfl rfl (.t rfl) (.t rfl) (.t rfl) (.t rfl) rfl, ?_⟩
        refine ⟨_, fun H => OpP.buildSliceF (α := G_api_Sealed) ty64 Tryd.underlying31 (.cons (.t rfl) .nil) rfl (by decide) rfl, ?_⟩
        refine .inl ?_
        refine ⟨_, fun H => OpP.nilCheckL (.t rfl) rfl, ?_⟩
        refine ⟨_, fun H => OpP.fldW G_algebra_MakerR.l0 fd90_0 rfl (.t rfl) rfl, ?_⟩
        refine ⟨_, fun H => OpP.fldL G_api_AlgebraR.l4 fd33_4 rfl (.t rfl) rfl, ?_⟩
        refine ⟨⟨([], fun k => List.getD [(true, .none_), (true, .none_), (true, .none_), (true, .none_), (true, .none_), (true, .none_), _] k (true, .none_)), rfl⟩, ?_⟩
        refine OpH.ofP (OpP.ldR (fun x => x.a.Boxes) tyR31 (.t rfl) (.s (.s (.s (.s .z)))) (fun _ => rfl) ?_)
        refine ⟨⟨([], fun k => List.getD [(true, .none_), (true, .none_), (true, .none_), (true, .none_), (true, .none_), (true, .none_), _] k (true, .none_)), rfl⟩, ?_⟩
        refine OpH.appendGS st31 (.inl ⟨_, Tryd.underlying31⟩) rfl (.s (.s (.s (.s (.s (.s .z)))))) (.v (.c rfl)) (by first | omega | (simp; done) | (simp; omega) | (simp at *; omega)) (by first | omega | (simp; done) | (simp; omega) | (simp at *; omega)) fun w79 => ?_
        refine ⟨⟨([], fun k => List.getD [(true, .none_), (true, .none_), (true, .none_), (true, .none_), (true, .none_), (true, .none_), _] k (true, .none_)), rfl⟩, ?_⟩
        show wpB _ _ _ _ _ _ ((82, _) :: (81, _) :: (80, _) :: (79, _) :: (78, _) :: (77, _) :: (76, _) :: (75, _) :: (74, _) :: (73, _) :: (72, _) :: (71, _) :: (70, _) :: (69, _) :: (68, _) :: (67, _) :: (66, _) :: (65, _) :: _) _
        refine .n (.stF (fun y x => { x with a.Boxes := y }) tyR31 (.t rfl) (.gs rfl (.s (.s (.s (.s (.s (.s .z))))))) (.s (.s (.s (.s .z)))) (fun _ _ => rfl) ?_)
        refine .nil ?_
        refine .seq ?_
        refine .region rfl ?_
        refine .p (.move (.t rfl) (.p (.assign (.t rfl) ?_)))
        refine .nil ?_
        refine .ret ?_
        refine ⟨_, .r1 rfl (.tmp rfl), ?_⟩
        refine ⟨_, .cons (.s (.s (.s (.s .z)))) (.cons (.s (.s (.s (.s (.s .z))))) (.cons (.s (.s (.s (.s (.s (.s .z)))))) (.nil))), ?_⟩
        have hf := idx_neg hc28
        have hfr : a.Free = true := by have h9 : (!a.Free) = false := hc62; simpa using h9
        rw [mkBox_new hf (by simp at hc47; omega)]
        simp only [if_pos hfr]
        exact ⟨w79, by trivial, rfl⟩
theorem mkBox_macs (a : Alg) (e : Int) (k : Tag) (n : Int) (p rb : List UInt8) : (mkBox a e k n p rb).2.1.Macs = a.Macs := by
  unfold mkBox; split
  · rfl
  · split
    · rfl
    · split <;> rfl
theorem Box_mk (w : Value) (x : MkU) (k : Tag) (n : Int) (p rb : List UInt8) (he : x.e = 0) (hl : x.a.Boxes.length ≤ 1000000) (hp : p.length ≤ 256) (hrb : rb.length ≤ 1000) (hbx : ∀ y ∈ x.a.Boxes, y.Box.length ≤ 1000000) :
    FunH gl Tryd.prog 47 [mp w, .v k, .v n, .v p, .clo0 Tryd.prog (.v rb)] [.usr w x] (fun r Hs => ∃ x' : MkU, Hs = [.usr w x'] ∧ r = .v (mkBox x.a x.e k n p rb).1 ∧ x'.a = (mkBox x.a x.e k n p rb).2.1 ∧ x'.e = (mkBox x.a x.e k n p rb).2.2) := by
  rw [he]
  refine FunH.mk (post := fun r x' => r = .v (mkBox x.a 0 k n p rb).1 ∧ x'.a = (mkBox x.a 0 k n p rb).2.1 ∧ x'.e = (mkBox x.a 0 k n p rb).2.2) ?_
  have h := Box_raw w x.a x.um x.ub (gsM x.um x.a) k n p rb hl hp hrb hbx
  have e : x.bs w = [.ob w (rawMk x.a 0 x.um x.ub), gsM x.um x.a, gsB x.ub x.a] := by unfold MkU.bs; rw [he]
  rw [e]
  exact h.mono fun r Hs ⟨ub', h1, h2⟩ => ⟨⟨_, _, x.um, ub'⟩, by rw [h2]; unfold MkU.bs gsM; rw [mkBox_macs], h1, rfl, rfl⟩
theorem Box_mkErr (w : Value) (x : MkU) (k : Tag) (n : Int) (p rb : List UInt8) (he : x.e ≠ 0) :
    FunH gl Tryd.prog 47 [mp w, .v k, .v n, .v p, .any] [.usr w x] (fun r Hs => ∃ x' : MkU, Hs = [.usr w x'] ∧ r = .v (mkBox x.a x.e k n p rb).1 ∧ x'.a = (mkBox x.a x.e k n p rb).2.1 ∧ x'.e = (mkBox x.a x.e k n p rb).2.2) :=
  FunH.mk (post := fun r x' => r = .v (mkBox x.a x.e k n p rb).1 ∧ x'.a = (mkBox x.a x.e k n p rb).2.1 ∧ x'.e = (mkBox x.a x.e k n p rb).2.2)
    ((Box_err w x.a x.e x.um x.ub (gsM x.um x.a) (gsB x.ub x.a) k n p he).mono fun r Hs ⟨h1, h2⟩ => ⟨x, h2, by rw [mkBox_err he]; exact h1, by rw [mkBox_err he], by rw [mkBox_err he]⟩)
theorem Fail_raw3 (w : Value) (s : G_algebra_MakerR) (e : Int) (B1 B2 : Blk) : FunH gl Tryd.prog 26 [mp w, .v e] [.ob w s, B1, B2] (fun r Hs => Hs = [.ob w { s with e := if s.e = 0 then e else s.e }, B1, B2]) := by
  refine FunH.intro Tryd.func26 rfl (by kernel_rfl) 13 rfl rfl _ rfl _ rfl fun C hC hG => ?_
  refine .seq ?_
  refine .region rfl ?_
  refine .p (.move (.t rfl) (.p (.nilCheckL (.t rfl) (.p (.fldW G_algebra_MakerR.l1 fd90_1 rfl (.t rfl) (.p (.ldF (fun x => x.e) ty39 (.t rfl) .z (fun _ => rfl) (.p (.eqlI (.t rfl) (.i rfl) ?_)))))))))
  refine .nil ?_
  refine .condP (.t rfl) (fun hc8 => ?_) (fun hc8 => ?_)
  · refine .region rfl ?_
    refine .p (.move (.t rfl) (.p (.move (.t rfl) (.p (.nilCheckL (.t rfl) (.p (.fldW G_algebra_MakerR.l1 fd90_1 rfl (.t rfl) (.n (.stF (fun y x => { x with e := y }) ty39 (.t rfl) (.t rfl) .z (fun _ _ => rfl) ?_)))))))))
    refine .nil ?_
    refine ⟨_, .r0 rfl , ?_⟩
    have h8 : s.e = 0 := hc8
    rw [if_pos h8]; rfl
  · refine .skip ?_
    refine ⟨_, .r0 rfl , ?_⟩
    have h8 : ¬ s.e = 0 := hc8
    rw [if_neg h8]; rfl
theorem Fail_mk (w : Value) (x : MkU) (e : Int) : FunH gl Tryd.prog 26 [mp w, .v e] [.usr w x] (fun r Hs => ∃ x' : MkU, Hs = [.usr w x'] ∧ x'.a = x.a ∧ x'.e = if x.e = 0 then e else x.e) :=
  FunH.mk (post := fun r x' => x'.a = x.a ∧ x'.e = if x.e = 0 then e else x.e)
    ((show FunH gl Tryd.prog 26 [mp w, .v e] (x.bs w) _ from Fail_raw3 w (rawMk x.a x.e x.um x.ub) e (gsM x.um x.a) (gsB x.ub x.a)).mono fun r Hs h => ⟨⟨x.a, if x.e = 0 then e else x.e, x.um, x.ub⟩, h, rfl, rfl⟩)
theorem xor_stream (k : Tag) (nonce : UInt64) (i : Nat) : xorB k (be64 nonce 8) i = streamByte k nonce i := by
  unfold xorB streamByte blockAt keyBlock
  have e : UInt64.ofInt ((i / 32 : Nat) : Int) = UInt64.ofNat (i / 32) := by
    apply UInt64.toNat_inj.1
    simp [UInt64.ofInt]; omega
  rw [List.append_assoc, e]
theorem xorL_stream (k : Tag) (nonce : UInt64) (p : List UInt8) (m : Nat) : xorL (xorB k (be64 nonce 8)) p m = streamL k nonce p m := by
  unfold xorL streamL
  rw [show xorB k (be64 nonce 8) = streamByte k nonce from funext fun i => xor_stream k nonce i]
theorem into1_c (k : Tag) (n : Int) (p : List UInt8) (hn0 : 0 ≤ n) (hn1 : n ≤ 281474976710656) (hp : p.length ≤ 256) : FunA gl Tryd.prog 48 [.p n, .p k, .p p] (fun r => r = .v (realBox k n p)) := by
  refine FunA.intro Tryd.func48 rfl (by kernel_rfl) 21 rfl rfl _ rfl fun C hC hG => ?_
  refine .seq ?_
  refine .region rfl ?_
  refine .p (.assign (.nilS (α := UInt8)) ?_)
  refine .nil ?_
  refine .seq ?_
  refine .region rfl ?_
  refine .p (.ldP ty3 (.t rfl) (.h (.call0 hG (numberOwn_c _ (by first | omega | (simp; done) | (simp; omega) | (simp at *; omega)) (by first | omega | (simp; done) | (simp; omega) | (simp at *; omega))) (.cons (.t rfl) .nil) fun r8 Hs8 hr8 => ?_)))
  obtain ⟨u8, rfl, rfl⟩ := hr8
  show wpB _ _ _ _ _ _ _ ((true, _) :: _)
  refine .p (.assign (.t rfl) ?_)
  refine .nil ?_
  refine .seq ?_
  have hb2 := be64_length (UInt64.ofInt n) 8
  have hx3 := xorL_length (xorB k (be64 (UInt64.ofInt n) 8)) p p.length
  refine .region rfl ?_
  refine .p (.move (.t rfl) (.p (.ldP ty24 (.t rfl) (.p (.move (.t rfl) (.p (.ldP ty25 (.t rfl) (.h (.lend0 hG (crypt_c _ _ _ (by first | omega | (simp; done) | (simp; omega) | (simp at *; omega)) (by first | omega | (simp; done) | (simp; omega) | (simp at *; omega))) (.cons (.e (.t rfl)) (.cons (.own rfl .z) (.cons (.e (.t rfl)) .nil))) (by rintro _ _ ⟨u, rfl, rfl⟩; exact .own) fun r13 Hs13 hr13 => ?_)))))))))
  obtain ⟨u13, rfl, rfl⟩ := hr13
  show wpB _ _ _ _ _ _ _ ((true, _) :: _)
  refine .h (.append st25 (.inl ⟨_, Tryd.underlying25⟩) rfl (.s .z) (.own rfl .z) (by first | omega | (simp; done) | (simp; omega) | (simp at *; omega)) (by first | omega | (simp; done) | (simp; omega) | (simp at *; omega)) (fun w14 => .p (.assign (.t rfl) ?_)) rfl)
  refine .nil ?_
  refine .seq ?_
  refine .region rfl ?_
  refine .p (.ldP ty24 (.t rfl) (.p (.move (.t rfl) (.p (.lend1 hG (boxCheck_c _ _ (by first | omega | (simp; done) | (simp; omega) | (simp at *; omega))) (.cons (.e (.t rfl)) (.cons (.own rfl (.s .z)) .nil)) (by first | exact .v | exact .t2 .v .v | exact .t3 .v .v .v) (.h (.alloc ty24 fun b6 => .n (.stW ty24 (.t rfl) (.t rfl) .z ?_))))))))
  refine .nil ?_
  refine .seq ?_
  refine .frzOb hC .z ?_
  refine .asP 6 rfl .z ?_
  refine .region rfl ?_
  refine .p (.move (.t rfl) (.p (.slArrP (by decide) ar24 (.t rfl) (.h (.append st25 (.inl ⟨_, Tryd.underlying25⟩) rfl (.s (.s .z)) (.v (.t rfl)) (by first | omega | (simp; done) | (simp; omega) | (simp at *; omega)) (by first | omega | (simp; done) | (simp; omega) | (simp at *; omega)) (fun w20 => .p (.assign (.t rfl) ?_)) rfl)))))
  refine .nil ?_
  refine .frzOwn hC (.s (.s .z)) ?_
  refine .as 3 rfl (.s (.s .z)) ?_
  refine .ret ?_
  refine ⟨_, .r1 rfl (.tmp rfl), ?_⟩
  rw [xorL_stream]; rfl
theorem Box_mkA (w : Value) (x : MkU) (k : Tag) (n : Int) (p rb : List UInt8) (hl : x.a.Boxes.length ≤ 1000000) (hp : p.length ≤ 256) (hrb : rb.length ≤ 1000) (hbx : ∀ y ∈ x.a.Boxes, y.Box.length ≤ 1000000) :
    FunH gl Tryd.prog 47 [mp w, .v k, .v n, .v p, .clo0 Tryd.prog (.v rb)] [.usr w x] (fun r Hs => ∃ x' : MkU, Hs = [.usr w x'] ∧ r = .v (mkBox x.a x.e k n p rb).1 ∧ x'.a = (mkBox x.a x.e k n p rb).2.1 ∧ x'.e = (mkBox x.a x.e k n p rb).2.2) := by
  by_cases he : x.e = 0
  · exact Box_mk w x k n p rb he hl hp hrb hbx
  · intro I L vs hG hvs hL
    refine Box_mkErr w x k n p rb he I L vs hG ?_ hL
    obtain ⟨v1, r1, rfl, q1, v2, r2, rfl, q2, v3, r3, rfl, q3, v4, r4, rfl, q4, v5, r5, rfl, q5, q6⟩ := hvs
    exact ⟨v1, _, rfl, q1, v2, _, rfl, q2, v3, _, rfl, q3, v4, _, rfl, q4, v5, _, rfl, trivial, q6⟩
def errInto (e n : Int) (p : List UInt8) : Int := if n < 0 ∨ 281474976710656 < n then (if e = 0 then 1 else e) else if 256 < p.length then (if e = 0 then 2 else e) else e
theorem realBox_length (k : Tag) (n : Int) (p : List UInt8) : (realBox k n p).length = p.length + 40 := by
  simp [realBox, sealHead, be64_length, streamL_length, (hmac k.l _).len]; omega
theorem Into_c (w : Value) (x : MkU) (k : Tag) (n : Int) (p : List UInt8) (hl : x.a.Boxes.length ≤ 1000000) (hbx : ∀ y ∈ x.a.Boxes, y.Box.length ≤ 1000000) :
    FunH gl Tryd.prog 27 [mp w, .v k, .v n, .v p] [.usr w x] (fun r Hs => ∃ x' : MkU, Hs = [.usr w x'] ∧ r = .v (mkBox x.a (errInto x.e n p) k n p (realBox k n p)).1 ∧ x'.a = (mkBox x.a (errInto x.e n p) k n p (realBox k n p)).2.1 ∧ x'.e = (mkBox x.a (errInto x.e n p) k n p (realBox k n p)).2.2) := by
  refine FunH.introS Tryd.func27 rfl (by kernel_rfl) 30 rfl rfl _ rfl _ rfl fun C hC hG => ?_
  refine .seq ?_
  refine .region rfl ?_
  refine .h (.box (.t rfl) fun b5 => .h (.box (.t rfl) fun b6 => .h (.box (.t rfl) fun b7 => .p (.assign (.nilS (α := UInt8)) ?_))))
  refine .nil ?_
  refine .seq ?_
  refine .block ?_
  refine .seq ?_
  refine .frzOb hC (.s (.s .z)) ?_
  refine .asP 5 rfl (.s (.s .z)) ?_
  refine .frzOb hC (.s .z) ?_
  refine .asP 6 rfl (.s .z) ?_
  refine .frzOb hC .z ?_
  refine .asP 7 rfl .z ?_
  refine .region rfl ?_
  refine .p (.ldP ty3 (.t rfl) (.p (.lss (.t rfl) (.i rfl) (.p (.move (.t rfl) ?_)))))
  refine .go 12 rfl (.t rfl) (fun hg13 => .ldP ty3 (.t rfl) rfl) ?_
  refine .go 12 rfl (.t rfl) (fun hg14 => .gtr (.o rfl (beq_iff_eq.2 hg14)) (.i rfl) rfl) ?_
  refine .p (.pickOr (.t rfl) (fun hp => (.o rfl (beq_iff_eq.2 hp))) (.p (.assign (.t rfl) ?_)))
  refine .nil ?_
  refine .cond (.t rfl) (fun hc9 => ?_) (fun hc9 => ?_)
  · refine .region rfl ?_
    refine .p (.move (.t rfl) (.h (.callM hG (Fail_mk _ _ _) (.s (.s (.s .z))) (.cons (.t rfl) (.cons (.i rfl) .nil)) (by rintro _ _ ⟨_, rfl, _⟩; exact ⟨_, rfl⟩) fun r17 B17 hr17 => ?_)))
    obtain ⟨x17, hB, ha17, he17⟩ := hr17
    cases hB
    have hne : x17.e ≠ 0 := by rw [he17]; split <;> omega
    refine .nil ?_
    refine .seq ?_
    refine .region rfl ?_
    refine .p (.move (.t rfl) (.p (.ldP ty24 (.t rfl) (.p (.ldP ty3 (.t rfl) (.p (.ldP ty25 (.t rfl) (.p (.mkAny (.cons (.t rfl) (.cons (.t rfl) (.cons (.t rfl) .nil))) (.h (.callM hG (Box_mkErr _ _ _ _ _ (realBox k n p) ‹_›) (.s (.s (.s .z))) (.cons (.t rfl) (.cons (.t rfl) (.cons (.t rfl) (.cons (.t rfl) (.cons (.t rfl) .nil))))) (by rintro _ _ ⟨_, rfl, _⟩; exact ⟨_, rfl⟩) fun r29 B29 hr29 => ?_)))))))))))
    obtain ⟨x29, hB, rfl, ha29, he29⟩ := hr29
    cases hB
    refine .p (.assign (.t rfl) ?_)
    refine .nil ?_
    refine .ret ?_
    refine ⟨_, .r1 rfl (.tmp rfl), ?_⟩
    refine ⟨_, .cons (.s (.s (.s .z))) (.nil), ?_⟩
    have e : errInto x.e n p = x17.e := by rw [he17]; unfold errInto; rw [if_pos (by simpa using hc9)]
    rw [e, ← ha17]; exact ⟨x29, rfl, rfl, ha29, he29⟩
  · refine .seq ?_
    refine .region rfl ?_
    refine .p (.ldP ty25 (.t rfl) (.p (.len Tryd.underlying25 (.t rfl) (.p (.gtr (.t rfl) (.i rfl) (.p (.assign (.t rfl) ?_)))))))
    refine .nil ?_
    refine .condP (.t rfl) (fun hc18 => ?_) (fun hc18 => ?_)
    · refine .region rfl ?_
      refine .p (.move (.t rfl) (.h (.callM hG (Fail_mk _ _ _) (.s (.s (.s .z))) (.cons (.t rfl) (.cons (.i rfl) .nil)) (by rintro _ _ ⟨_, rfl, _⟩; exact ⟨_, rfl⟩) fun r23 B23 hr23 => ?_)))
      obtain ⟨x23, hB, ha23, he23⟩ := hr23
      cases hB
      have hne : x23.e ≠ 0 := by rw [he23]; split <;> omega
      refine .nil ?_
      refine .seq ?_
      refine .region rfl ?_
      refine .p (.move (.t rfl) (.p (.ldP ty24 (.t rfl) (.p (.ldP ty3 (.t rfl) (.p (.ldP ty25 (.t rfl) (.p (.mkAny (.cons (.t rfl) (.cons (.t rfl) (.cons (.t rfl) .nil))) (.h (.callM hG (Box_mkErr _ _ _ _ _ (realBox k n p) ‹_›) (.s (.s (.s .z))) (.cons (.t rfl) (.cons (.t rfl) (.cons (.t rfl) (.cons (.t rfl) (.cons (.t rfl) .nil))))) (by rintro _ _ ⟨_, rfl, _⟩; exact ⟨_, rfl⟩) fun r29 B29 hr29 => ?_)))))))))))
      obtain ⟨x29, hB, rfl, ha29, he29⟩ := hr29
      cases hB
      refine .p (.assign (.t rfl) ?_)
      refine .nil ?_
      refine .ret ?_
      refine ⟨_, .r1 rfl (.tmp rfl), ?_⟩
      refine ⟨_, .cons (.s (.s (.s .z))) (.nil), ?_⟩
      have e : errInto x.e n p = x23.e := by rw [he23]; unfold errInto; rw [if_neg (by simp at hc9; omega), if_pos (by omega)]
      rw [e, ← ha23]; exact ⟨x29, rfl, rfl, ha29, he29⟩
    · refine .skip ?_
      refine .seq ?_
      refine .region rfl ?_
      refine .p (.move (.t rfl) (.p (.ldP ty24 (.t rfl) (.p (.ldP ty3 (.t rfl) (.p (.ldP ty25 (.t rfl) (.p (.mkClo0 hG (into1_c k n p (by simp at hc9; omega) (by simp at hc9; omega) (by omega)) (.cons (.t rfl) (.cons (.t rfl) (.cons (.t rfl) .nil))) (.h (.callM hG (Box_mkA _ _ _ _ _ (realBox k n p) hl (by omega) (by rw [realBox_length]; omega) hbx) (.s (.s (.s .z))) (.cons (.t rfl) (.cons (.t rfl) (.cons (.t rfl) (.cons (.t rfl) (.cons (.t rfl) .nil))))) (by rintro _ _ ⟨_, rfl, _⟩; exact ⟨_, rfl⟩) fun r29 B29 hr29 => ?_)))))))))))
      obtain ⟨x29, hB, rfl, ha29, he29⟩ := hr29
      cases hB
      refine .p (.assign (.t rfl) ?_)
      refine .nil ?_
      refine .ret ?_
      refine ⟨_, .r1 rfl (.tmp rfl), ?_⟩
      refine ⟨_, .cons (.s (.s (.s .z))) (.nil), ?_⟩
      have e : errInto x.e n p = x.e := by unfold errInto; rw [if_neg (by simp at hc9; omega), if_neg (by omega)]
      rw [e]; exact ⟨x29, rfl, rfl, ha29, he29⟩
theorem mkSeal_done (a : Alg) (k : Tag) (n : Int) (p : List UInt8) : (if (mkBox a (errInto 0 n p) k n p (realBox k n p)).2.2 ≠ 0 then (default, [], (mkBox a (errInto 0 n p) k n p (realBox k n p)).2.2) else
    ((mkBox a (errInto 0 n p) k n p (realBox k n p)).2.1, (mkBox a (errInto 0 n p) k n p (realBox k n p)).1, 0)) = algSeal a k n p := by
  unfold algSeal errInto
  by_cases h1 : n < 0 ∨ 281474976710656 < n
  · simp only [if_pos h1, if_true]; rw [mkBox_err (by decide)]; simp
  · simp only [if_neg h1]
    by_cases h2 : 256 < p.length
    · simp only [if_pos h2, if_true]; rw [mkBox_err (by decide)]; simp
    · simp only [if_neg h2]
      cases hf : a.Boxes.find? (sealEq k n p) with
      | some x =>
        have e : mkBox a 0 k n p (realBox k n p) = (x.Box, a, 0) := by unfold mkBox; rw [if_neg (by decide), hf]
        rw [e]; rfl
      | none =>
        by_cases h3 : 65536 ≤ a.Boxes.length
        · rw [mkBox_full hf h3]; simp only [if_pos h3]; rfl
        · rw [mkBox_new hf h3]; simp only [if_neg h3]; rfl
end Go.Proofs.YtkjpkdpnlioffaaDoor
set_option linter.unusedVariables false
namespace Go.Ab
open Go.Fl Go.RowKit
open Rep (rep)
variable {P : Program} {N : Nat} {C : Ctx} {σ : AEnv} {H : AHeap} {K : AV → Prop} {d : Option Nat} {ty : TypeId} {ps : String} {af : Array Edge} {g : Option (Nat × Bool)} {x y : Operand} {T T2 : TypeId}
theorem ofInt_toNat64 {m : Int} (h0 : 0 ≤ m) (h1 : m ≤ 9223372036854775807) : (BitVec.ofInt 64 m).toNat = m.toNat := by
  rw [BitVec.toNat_ofInt, Int.emod_eq_of_lt h0 (by omega)]
theorem wrap64 {n : Nat} (h : n < 2 ^ 63) : IntKind.wrap .i64 (n : Int) = (n : Int) := wrap_i64 (by omega) (by omega)
theorem andI_run {m n : Int} (h0 : 0 ≤ m) (h1 : 0 ≤ n) (hm : m ≤ 9223372036854775807) (hn : n ≤ 9223372036854775807) : binOp .and T (i64 m) (i64 n) = pure (i64 ((m.toNat &&& n.toNat : Nat) : Int)) := by
  show Op.intBits .and .i64 m n = _
  unfold Op.intBits
  have e : ((BitVec.ofInt 64 m) &&& (BitVec.ofInt 64 n)).toNat = m.toNat &&& n.toNat := by rw [BitVec.toNat_and, ofInt_toNat64 h0 hm, ofInt_toNat64 h1 hn]
  have hb : m.toNat &&& n.toNat < 2 ^ 63 := Nat.lt_of_le_of_lt Nat.and_le_left (by omega)
  show (pure (Value.int .i64 (IntKind.wrap .i64 (((BitVec.ofInt 64 m) &&& (BitVec.ofInt 64 n)).toNat : Int))) : Sem Value) = _
  rw [e, wrap64 hb]
theorem orI_run {m n : Int} (h0 : 0 ≤ m) (h1 : 0 ≤ n) (hm : m ≤ 9223372036854775807) (hn : n ≤ 9223372036854775807) : binOp .or T (i64 m) (i64 n) = pure (i64 ((m.toNat ||| n.toNat : Nat) : Int)) := by
  show Op.intBits .or .i64 m n = _
  unfold Op.intBits
  have e : ((BitVec.ofInt 64 m) ||| (BitVec.ofInt 64 n)).toNat = m.toNat ||| n.toNat := by rw [BitVec.toNat_or, ofInt_toNat64 h0 hm, ofInt_toNat64 h1 hn]
  have hb : m.toNat ||| n.toNat < 2 ^ 63 := Nat.or_lt_two_pow (by omega) (by omega)
  show (pure (Value.int .i64 (IntKind.wrap .i64 (((BitVec.ofInt 64 m) ||| (BitVec.ofInt 64 n)).toNat : Int))) : Sem Value) = _
  rw [e, wrap64 hb]
theorem OpP.andI {m n : Int} (hx : EvA C σ H x (.v m)) (hy : EvA C σ H y (.v n)) (h0 : 0 ≤ m) (h1 : 0 ≤ n) (k : K (.v (((m.toNat &&& n.toNat : Nat) : Int)))) : OpP P N C ⟨d, .binOp .and T x y T2, ty, ps, af, g⟩ σ H K :=
  .vk k (fun ρ I L hs => by
    obtain ⟨e1, _, b1⟩ := hx.int hs
    obtain ⟨e2, _, b2⟩ := hy.int hs
    have hb : m.toNat &&& n.toNat ≤ m.toNat := Nat.and_le_left
    exact .mk ⟨_, ⟨rfl, by omega, by omega⟩, rfl⟩ fun a w ha hm => by
      simp [execOp, ha.ev e1, ha.ev e2, eqGuard, andI_run h0 h1 b1 b2, asV, Rep.agg])
theorem OpP.orI {m n : Int} (hx : EvA C σ H x (.v m)) (hy : EvA C σ H y (.v n)) (h0 : 0 ≤ m) (h1 : 0 ≤ n) (k : K (.v (((m.toNat ||| n.toNat : Nat) : Int)))) : OpP P N C ⟨d, .binOp .or T x y T2, ty, ps, af, g⟩ σ H K :=
  .vk k (fun ρ I L hs => by
    obtain ⟨e1, _, b1⟩ := hx.int hs
    obtain ⟨e2, _, b2⟩ := hy.int hs
    have hb : m.toNat ||| n.toNat < 2 ^ 63 := Nat.or_lt_two_pow (by omega) (by omega)
    exact .mk ⟨_, ⟨rfl, by omega, by omega⟩, rfl⟩ fun a w ha hm => by
      simp [execOp, ha.ev e1, ha.ev e2, eqGuard, orI_run h0 h1 b1 b2, asV, Rep.agg])
theorem OpP.shrIu {m : Int} {n : UInt64} (hx : EvA C σ H x (.v m)) (hy : EvA C σ H y (.v n)) (h1 : n.toNat < 64) (k : K (.v (m >>> n.toNat))) : OpP P N C ⟨d, .binOp .shr T x y T2, ty, ps, af, g⟩ σ H K :=
  .vk k (fun ρ I L hs => by
    have hm := (hx.int hs).2
    refine .mk ⟨_, ⟨rfl, ?_, ?_⟩, rfl⟩ fun a w ha hm => by
      have e := shrI_run T m .u64 n.toNat h1
      simp only [execOp, ha.ev (hx.int hs).1, ha.ev (hy.by64 hs), eqGuard]
      simp [Fl.u64, e, asV, Rep.agg]
    · rw [Int.shiftRight_eq_div_pow]
      rcases Int.le_total 0 m with h | h
      · have := Int.ediv_nonneg h (Int.natCast_nonneg (2 ^ n.toNat)); omega
      · have h2 : (1 : Int) ≤ ((2 ^ n.toNat : Nat) : Int) := Int.natCast_pos.2 (Nat.two_pow_pos _)
        have := Int.le_ediv_of_mul_le (a := m) (b := m) (c := ((2 ^ n.toNat : Nat) : Int)) (by omega) (by have := Int.mul_le_mul_of_nonpos_left h h2; omega)
        omega
    · rw [Int.shiftRight_eq_div_pow]
      rcases Int.le_total 0 m with h | h
      · have := Int.ediv_le_self ((2 ^ n.toNat : Nat) : Int) h; omega
      · have h2 : (0 : Int) < ((2 ^ n.toNat : Nat) : Int) := Int.natCast_pos.2 (Nat.two_pow_pos _)
        have := Int.ediv_lt_of_lt_mul (a := m) (b := 1) h2 (by omega); omega)
theorem lay_a {dd : TypeDesc} {b : Bool} (h : P.underlying T = some dd) (hb : isRow dd = b) : ∀ w, (isAgg T).run P w = .ok b w := fun w => hb ▸ run_isAgg h w
theorem lay_z {n : Nat} (h : (P.info? T).map (·.size) = some n) : ∀ w, (Go.sizeOf T).run P w = .ok n w := fun w => SizeIs.run h w
theorem lay_v {v : Value} (h : (P.info? T).bind (·.zero) = some v) : ∀ w, (zeroValue T).run P w = .ok v w := fun w => by
  cases hq : P.info? T with
  | none => simp [hq] at h
  | some i => simp [hq] at h; simp [zeroValue, typeInfo, hq, h]
theorem FunH.frzT {G : Gl} {P : Program} {f : FuncId} {ags : List AV} {E : TypeId} {α : Type} [r : Rep α] {l : List α} {b : AV} (h : FunH G P f ags [] (fun r Hs => ∃ u, r = .t2 (.raw u) b ∧ Hs = [.own E u l])) : FunA G P f ags (fun r => r = .t2 (.v l) b) := fun I vs hG hvs => by
  have hM := h I [] vs hG hvs rfl
  refine ⟨hM.ok, fun w hm => (hM.run w hm).mono ?_⟩
  rintro e w' ⟨v, J, L', rfl, q1, q2, q3, q4, q5, r, Hs', q6, q7, u, rfl, rfl⟩
  obtain ⟨X, R, rfl, q8, q9⟩ := q7
  have q9' : R = [] := q9
  subst q9'
  obtain ⟨x, y, rfl, q6', q6b⟩ := q6
  have q6'' : x = u := q6'
  subst q6''
  have hle : Le J (J.with X) := Im.with_le fun p hp => q4.sep p (by simpa using hp)
  refine ⟨_, J.with X, rfl, by simpa using q1, q2.trans hle, fun b h0 h1 => ?_, (q4.freeze (i := 0) (c := X) rfl).drop, .t2 (.v l) b, ⟨x, y, rfl, freeze_own q8 hle (fun p hp => Im.with_mem (by simpa using q4.nodup) hp), q6b.mono hle⟩, rfl⟩
  cases hj : J.with X b with
  | none => exact absurd hj h1
  | some o =>
    rcases Im.with_some hj with h2 | h2
    · rcases q5 (b, o) (by simpa using h2) with h3 | h3
      · exact h3
      · cases h3
    · exact q3 b h0 (by simp [h2])
section clo
variable {C : Ctx} {σ : AEnv} {H : AHeap} {G : Gl} {f : FuncId} {args : Array Operand} {tys : Array TypeId}
end clo
theorem OpP.slToArr {α : Type} {r : Rep α} {n : Nat} {l : List α} {A E : TypeId} (hA : P.underlying A = some (.array n E)) (hn : 0 < n) (hz : 0 < Rep.size α) (hx : EvA C σ H x (.v l)) (h : l.length = n) (k : K (.p (⟨l, h⟩ : Arr n α))) :
    OpP P N C ⟨d, .sliceToArrayPointer A x, ty, ps, af, g⟩ σ H K :=
  .vk k (fun ρ I L hs => by
    obtain ⟨u, hu, xs, hsl, hl⟩ := hx.sl hs
    obtain ⟨a, c, rfl, hlen, h3, h4, h5, h6⟩ := hsl
    have hne : xs ≠ [] := by
      intro e
      have := hl.len
      rw [e, h] at this
      have h7 : 0 < n * Rep.size α := Nat.mul_pos hn hz
      simp at this; omega
    obtain ⟨b, o, rfl, hc⟩ := h6 hne
    refine .mk ⟨b, o, xs, rfl, hl, hc⟩ fun ac w ha hm => ?_
    have hle : ¬ l.length < n := by omega
    simp [execOp, ha.ev hu, Instr.arrayAt, run_underlying hA, h])
end Go.Ab
set_option linter.unusedVariables false
set_option linter.unusedSimpArgs false
namespace Go.Ab
open Go.Fl Go.RowKit Go.Shelf Go.Proofs
open Rep (rep)
theorem Chg.of_below {w w' : World} (h : Below w.heap.size w w') : Chg [] w w' := ⟨h.os, h.tape, h.output, h.size, fun k hk _ => h.block k hk⟩
theorem fresh_bytes {I : Im} {w w' : World} {v : Value} {l : List UInt8} (hm : Mem I [] w) (hb : Below w.heap.size w w') (hf : Lib.FreshBytes w.heap.size w' v l) :
    ∃ J, Le I J ∧ NewIm w.heap.size I J ∧ Mem J [] w' ∧ RepV J (.v l) v := by
  obtain ⟨g, cap, zs, rfl, hg, hlc, hcm, hz, h256, hl, hc, -⟩ := hf
  have hlt : ∀ b o, I b = some o → b < w.heap.size := fun b o h => lt_of_get (hm.im b o h)
  have him : ∀ b o, I b = some o → w'.heap[b]? = some o := fun b o h => (hb.block b (hlt b o h)).trans (hm.im b o h)
  have hIg : I g = none := by
    cases h : I g with
    | none => rfl
    | some o => have := hlt g o h; omega
  refine ⟨fun b => if b = g then w'.heap[g]? else I b, fun b o h => ?_, fun b h0 h1 => ?_, ⟨fun b o h => ?_, by simp, by simp, by simp⟩, [_], ⟨_, rfl, bytesV l, ⟨some ⟨g, 0, none⟩, cap, rfl, by simp [bytesV, Rep.size], hlc, hcm, by simp, fun hx => ⟨g, 0, rfl, ?_⟩⟩, repL_u8.2 rfl⟩, rfl⟩
  · by_cases e : b = g
    · subst e; rw [hIg] at h; cases h
    · simp only [if_neg e]; exact h
  · by_cases e : b = g
    · subst e; exact hg
    · simp only [if_neg e] at h1; exact absurd h0 h1
  · by_cases e : b = g
    · subst e; simpa using h
    · simp only [if_neg e] at h; exact him b o h
  · have h0 : 0 < l.length := by
      cases l with
      | nil => exact absurd rfl hx
      | cons => simp
    have h1 := hc 0 (by omega)
    unfold World.cell? at h1
    cases hh : w'.heap[g]? with
    | none => simp only [hh] at h1; cases h1
    | some o =>
      cases o with
      | cells cs e fr =>
        refine ⟨cs, e, fr, by simp [hh], fun i v hv => ?_⟩
        have hi : i < l.length := by
          have := (List.getElem?_eq_some_iff.1 hv).1
          simpa [bytesV] using this
        have h2 := hc i (by omega)
        unfold World.cell? at h2
        simp only [hh, Option.isSome_none, Bool.false_eq_true, if_false] at h2
        rw [Nat.zero_add, h2, ← hv]
        have hzi : i < zs.length := by omega
        have hb := h256 zs[i] (List.getElem_mem hzi)
        have e1 : l[i]? = some (UInt8.ofNat zs[i].toNat) := by
          rw [← hl, Lib.bytesOf, List.getElem?_map, List.getElem?_take_of_lt hi, List.getElem?_eq_getElem hzi]; rfl
        rw [bytesV, List.getElem?_map, e1]
        simp only [Option.map_some, Fl.u8, List.getD_eq_getElem?_getD, List.getElem?_eq_getElem hzi, Option.getD_some]
        congr 2
        simp only [UInt8.toNat_ofNat']
        omega
      | _ => simp only [hh] at h1; cases h1
theorem holds_bytes {I : Im} {L : Lh} {w : World} {u : Value} {l : List UInt8} (hm : Mem I L w) (h : SlA I u l) : Lib.HoldsBytes w u l := by
  obtain ⟨xs, ⟨a, c, rfl, hl, hnc, hcm, hnil, hx⟩, hr⟩ := h
  obtain rfl := repL_u8.1 hr
  refine ⟨a, c, rfl, fun e => ?_, fun b hb i x hi => ?_⟩
  · have := hnil e
    exact List.length_eq_zero_iff.1 (by omega)
  · have hne : bytesV l ≠ [] := by
      intro e
      have : l = [] := by simpa [bytesV] using e
      subst this; cases hi
    obtain ⟨b', o, e, hc⟩ := hx hne
    rw [hb] at e
    obtain rfl := Option.some.inj e
    rw [Lib.add_plain2]
    exact hc.cell hm (by rw [bytesV, List.getElem?_map, hi]; rfl)
theorem parts_at {I : Im} {L : Lh} {w : World} {b o : Nat} (hm : Mem I L w) : ∀ {ls : List (List UInt8)} {xs : List Value}, repL I ls xs → Cells I b o xs → Lib.PartsAt w ⟨b, o, none⟩ xs ls := fun {ls xs} h hc => by
  have hlen : xs.length = ls.length := by have := h.len; simpa [Rep.size] using this
  refine ⟨hlen, fun i v hv => by rw [Lib.add_plain2]; exact hc.cell hm hv, fun i v l hv hl => ?_⟩
  have hi : i < ls.length := (List.getElem?_eq_some_iff.1 hl).1
  have hg := h.get i hi
  obtain ⟨u, e, hu⟩ := hg
  have e2 : ls[i] = l := (List.getElem?_eq_some_iff.1 hl).2
  have e3 : u = v := by
    have : (segGet xs (i * Rep.size (List UInt8)) (Rep.size (List UInt8)))[0]? = some u := by rw [e]; rfl
    simp only [segGet, Rep.size, Nat.mul_one] at this
    rw [List.getElem?_take_of_lt (by omega), List.getElem?_drop, Nat.add_zero, hv] at this
    exact (Option.some.inj this).symm
  subst e3; subst e2
  exact holds_bytes hm hu
theorem join_flatten (ls : List (List UInt8)) : Lib.join ls [] = ls.flatten := by
  cases ls with
  | nil => rfl
  | cons x r => rw [Lib.join_cons, Lib.joinTail]; simp
theorem joinNil_c {G : Gl} {P : Program} {ρ : Ren} (L : SlLaysJ.n14 P ρ) (hok : CallOk P (ρ.f 14)) (ls : List (List UInt8)) (h2 : 2 ≤ ls.length) (hn : ls.length ≤ 140737488355328) (hlen : Lib.lens ls ≤ 140737488355328) :
    FunA G P (ρ.f 14) [.v ls, .v ([] : List UInt8)] (fun r => r = .v ls.flatten) := fun I vs hG hv => by
  obtain ⟨u1, _, rfl, ⟨_, ⟨v1, rfl, hs⟩, rfl⟩, u2, _, rfl, ⟨_, ⟨v2, rfl, hs2⟩, rfl⟩, rfl⟩ := hv
  refine ⟨hok, fun w hm => ?_⟩
  have hS := holds_bytes hm hs2
  obtain ⟨xs, ⟨a, c, rfl, hl, hnc, hcm, hnil, hx⟩, hr⟩ := hs
  obtain ⟨b, o, rfl, hc⟩ := hx (fun e => by
    have := hr.len
    rw [e] at this
    simp [Rep.size] at this
    omega)
  refine (Any.bytes_Join_many L b o ls.length c xs ls _ [] w rfl h2 (parts_at hm hr hc) hnc hS hn (by simpa using hlen)).mono ?_
  rintro e w' ⟨v', rfl, hf, hb⟩
  obtain ⟨J, h1, h3, h4, h5⟩ := fresh_bytes hm hb hf
  exact ⟨v', J, rfl, Chg.of_below hb, h1, h3, h4, _, h5, by rw [join_flatten]⟩
end Go.Ab
