import Derived.Test.YtlohppddhbimnaaDoorFlB5
set_option linter.unusedVariables false
set_option linter.unusedSimpArgs false
/- A region that draws its order and whose one store may come before or behind some of its other operations ('floating' ones). -/
namespace Go.Fl
open Go.RowKit
def dropT (d : Nat) (ρ : Env) : Env := ρ.filter fun e => !(e.1 == d)
theorem look_dropT {d : Nat} : ∀ {ρ : Env} {t : Nat} {v : Value}, look (dropT d ρ) t = some v → t ≠ d ∧ look ρ t = some v
  | [], t, v, h => by simp [dropT, look] at h
  | (e, u) :: r, t, v, h => by
    by_cases he : e = d
    · have h' : look (dropT d r) t = some v := by simpa [dropT, he] using h
      obtain ⟨h1, h2⟩ := look_dropT h'
      exact ⟨h1, by rw [look_cons, if_neg (by rw [he]; exact fun x => h1 x.symm)]; exact h2⟩
    · have h' : look ((e, u) :: dropT d r) t = some v := by simpa [dropT, he] using h
      rw [look_cons] at h'
      by_cases het : e = t
      · subst het
        rw [if_pos rfl] at h'
        exact ⟨he, by rw [look_cons, if_pos rfl]; exact h'⟩
      · rw [if_neg het] at h'
        obtain ⟨h1, h2⟩ := look_dropT h'
        exact ⟨h1, by rw [look_cons, if_neg het]; exact h2⟩
/-- As finE, but the floating operations are passed by. -/
def finF (J : Im) (sp : Nat → Option Spec) (fl : Nat → Bool) (G : Env → Lh → Prop) : List Oper → Nat → Env → Lh → Prop
  | o :: os, k, ρ, L =>
    match o.dst with
    | none => False
    | some d =>
      match fl k with
      | true => finF J sp fl G os (k + 1) (dropT d ρ) L
      | false => match sp k with
        | some (.is x) => finF J sp fl G os (k + 1) ((d, x) :: ρ) L
        | some (.val p _) => ∀ v, p v J → finF J sp fl G os (k + 1) ((d, v) :: ρ) L
        | some (.new obj) => ∀ b, finF J sp fl G os (k + 1) ((d, .pointer (some ⟨b, 0, none⟩)) :: ρ) ([(b, obj)] :: L)
        | none => False
  | [], _, ρ, L => G ρ L
/-- The floating operations' slots. -/
def finG (J : Im) (sp : Nat → Option Spec) (ops : Array Oper) (G : Env → Prop) : List Nat → Env → Prop
  | [], ρ => G ρ
  | i :: r, ρ => match (ops[i]?).bind (·.dst), sp i with
    | some d, some (.is x) => finG J sp ops G r ((d, x) :: ρ)
    | some d, some (.val p _) => ∀ v, p v J → finG J sp ops G r ((d, v) :: ρ)
    | _, _ => False
def duties (P : Program) (N : Nat) (ops : Array Oper) (ss : List (List (Nat × Nat))) (sp : Nat → Option Spec) (ρ0 : Env) (J : Im) (L : Lh) (G : Prop) : List Nat → Prop
  | [] => G
  | i :: r => (match ops[i]?, ss[i]?, sp i with | some o, some s, some S => duty P N ops sp ρ0 J L o s S | _, _, _ => False) ∧ duties P N ops ss sp ρ0 J L G r
theorem duties_elim {P : Program} {N : Nat} {ops : Array Oper} {ss : List (List (Nat × Nat))} {sp : Nat → Option Spec} {ρ0 : Env} {J : Im} {L : Lh} {G : Prop} : ∀ {is : List Nat}, duties P N ops ss sp ρ0 J L G is →
    G ∧ ∀ i ∈ is, ∀ o s, ops[i]? = some o → ss[i]? = some s → ∃ S, sp i = some S ∧ duty P N ops sp ρ0 J L o s S
  | [], h => ⟨h, fun i hi => by cases hi⟩
  | i :: r, h => by
    obtain ⟨h1, h2⟩ := h
    obtain ⟨h3, h4⟩ := duties_elim h2
    refine ⟨h3, fun j hj o s ho hs => ?_⟩
    rcases List.mem_cons.1 hj with rfl | hj
    · rw [ho, hs] at h1
      cases hS : sp j with
      | none => simp [hS] at h1
      | some S => exact ⟨S, rfl, by simpa [hS] using h1⟩
    · exact h4 j hj o s ho hs
def floatAt (fl : List Nat) (i : Nat) : Bool := fl.any (· == i)
/-- What is asked of such a region's edges. -/
def lateOk (ops : Array Oper) (n : Nat) (ss : List (List (Nat × Nat))) (fl : List Nat) : Bool :=
  Nat.blt n ops.size && edgesBack ops && (List.range n).all (opOk ops n ss) && dstsOk ops n &&
  (match ops[n]? with | some o => o.dst.isNone && o.guard.isNone | none => false) &&
  ((List.range n).all fun i => floatAt fl i || Region.waitsFor .any ops n i) &&
  (fl.all fun i => Nat.blt i n && (match ops[i]?, ss[i]? with | some o, some s => o.guard.isNone && (opTmps o).all (fun t => match srcOf s t with | none => true | some j => floatAt fl j) | _, _ => false)) &&
  ((List.range ops.size).all fun t => Nat.ble t n || (if t == n + 1 then (List.range (n + 1)).all fun i => Region.waitsFor .any ops t i else Region.waitsFor .any ops t (t - 1))) &&
  Region.seqB .any ops (ops.size - (n + 1)) (n + 1) (headAll ops.size (n + 1))

section late
variable {P : Program} {C : Ctx} {N n n0 : Nat} {l : List Oper} {ss : List (List (Nat × Nat))} {sp : Nat → Option Spec} {ρ0 : Env} {I : Im} {L : Lh}
theorem finF_elim {listed : Array Bool} {J : Im} {vs : Nat → Value} {bs : Nat → Nat} {a : Act} {w : World} (inv : PInv C N n n n0 l.toArray sp ρ0 I L listed J vs bs a w) {fl : Nat → Bool} (hnl : n ≤ l.length)
    (hall : ∀ j, j < n → fl j = false → listed.getD j false = true) {G : Env → Lh → Prop} :
    ∀ (os : List Oper) (k : Nat) (ρ : Env) (Lk : Lh), (∀ j, os[j]? = (l.take n)[k + j]?) → k ≤ n →
      (∀ t v, look ρ t = some v → (∀ j, k ≤ j → j < n → (l.toArray[j]?).bind (·.dst) ≠ some t) → a.tmps[t]? = some v) → St C J Lk w →
      (∀ p ∈ Lk.flatten, p ∈ L.flatten ∨ ∃ j, j < k ∧ fl j = false ∧ p.1 = bs j ∧ ∃ o, sp j = some (.new o)) →
      finF J sp fl G os k ρ Lk → ∃ ρ' L', Fits N ρ' a ∧ St C J L' w ∧ G ρ' L'
  | os, k, ρ, Lk, hos, hk, htmp, hst, hblk, h => by
    by_cases hkn : k = n
    · subst hkn
      have ho : os = [] := by
        cases os with
        | nil => rfl
        | cons x r =>
          have := hos 0
          have h9 : (l.take k)[k + 0]? = none := List.getElem?_eq_none (by rw [List.length_take]; omega)
          rw [h9] at this
          cases this
      subst ho
      simp only [finF] at h
      exact ⟨ρ, Lk, ⟨inv.defers, inv.size, fun t v hv => htmp t v hv (fun j h1 h2 => by omega)⟩, hst, h⟩
    · have hkn' : k < n := by omega
      cases os with
      | nil =>
        have h1 := hos 0
        simp at h1
        omega
      | cons o os =>
        have h1 := hos 0
        have hol : l[k]? = some o := by simpa [hkn'] using h1.symm
        have hos' : ∀ j, os[j]? = (l.take n)[k + 1 + j]? := fun j => by have := hos (j + 1); simpa [Nat.add_assoc, Nat.add_comm 1 j] using this
        have hblk' : ∀ p ∈ Lk.flatten, p ∈ L.flatten ∨ ∃ j, j < k + 1 ∧ fl j = false ∧ p.1 = bs j ∧ ∃ o, sp j = some (.new o) := fun p hp => by
          rcases hblk p hp with h3 | ⟨j, h3, h4⟩
          · exact .inl h3
          · exact .inr ⟨j, by omega, h4⟩
        cases hod : o.dst with
        | none => simp only [finF, hod] at h
        | some d =>
          cases hfk : fl k with
          | true =>
            simp only [finF, hod, hfk] at h
            refine finF_elim inv hnl hall os (k + 1) _ Lk hos' (by omega) (fun t v hv hno => ?_) hst hblk' h
            obtain ⟨h3, h4⟩ := look_dropT hv
            refine htmp t v h4 fun j h5 h6 => ?_
            by_cases hjk : j = k
            · subst hjk
              intro he
              simp [hol, hod] at he
              exact h3 he.symm
            · exact hno j (by omega) h6
          | false =>
            obtain ⟨T, hT, hh, hnew⟩ := inv.val k hkn' (hall k hkn' hfk)
            have htk := inv.tmpI k d hkn' (hall k hkn' hfk) (by simp [hol, hod])
            have htmp' : ∀ x, x = vs k → ∀ t v, look ((d, x) :: ρ) t = some v → (∀ j, k + 1 ≤ j → j < n → (l.toArray[j]?).bind (·.dst) ≠ some t) → a.tmps[t]? = some v := by
              rintro x rfl t v hv hno
              rw [look_cons] at hv
              by_cases e : d = t
              · subst e; simp at hv; subst hv; exact htk
              · rw [if_neg e] at hv
                refine htmp t v hv fun j h3 h4 => ?_
                by_cases hjk : j = k
                · subst hjk
                  intro he
                  simp [hol, hod] at he
                  exact e he
                · exact hno j (by omega) h4
            cases T with
            | is x =>
              simp only [finF, hod, hfk, hT] at h
              exact finF_elim inv hnl hall os (k + 1) _ Lk hos' (by omega) (htmp' x hh.symm) hst hblk' h
            | val p m =>
              simp only [finF, hod, hfk, hT] at h
              exact finF_elim inv hnl hall os (k + 1) _ Lk hos' (by omega) (htmp' (vs k) rfl) hst hblk' (h (vs k) hh)
            | new obj =>
              simp only [finF, hod, hfk, hT] at h
              obtain ⟨hb1, hb2, hb3⟩ := inv.blk k hkn' (hall k hkn' hfk) obj hT
              refine finF_elim inv hnl hall os (k + 1) _ _ hos' (by omega) (htmp' _ (hnew obj rfl).symm) (hst.cons hb1 hb2 (fun q hq => ?_) (Nat.le_trans inv.own0 hb3)) (fun q hq => ?_) (h (bs k))
              · rcases hblk q hq with h3 | ⟨j, h3, h3f, h4, h5⟩
                · have := inv.lt0 q h3; omega
                · rw [h4]
                  exact inv.inj j k (by omega) hkn' (hall j (by omega) h3f) (hall k hkn' hfk) h5 ⟨obj, hT⟩ (by omega)
              · simp only [List.flatten_cons, List.cons_append, List.nil_append, List.mem_cons] at hq
                rcases hq with rfl | hq
                · exact .inr ⟨k, by omega, hfk, rfl, obj, hT⟩
                · exact hblk' q hq
theorem finG_elim {J : Im} {a : Act} {vs : Nat → Value} {ops : Array Oper} {G : Env → Prop} : ∀ (is : List Nat) (ρ : Env),
    (∀ i ∈ is, (∃ S, sp i = some S ∧ S.holds (vs i) J) ∧ ∀ d, (ops[i]?).bind (·.dst) = some d → a.tmps[d]? = some (vs i)) → finG J sp ops G is ρ →
    ∃ ρ', G ρ' ∧ ∀ t v, look ρ' t = some v → (look ρ t = some v ∧ ∀ i ∈ is, (ops[i]?).bind (·.dst) ≠ some t) ∨ a.tmps[t]? = some v
  | [], ρ, _, h => ⟨ρ, h, fun t v hv => .inl ⟨hv, fun i hi => by cases hi⟩⟩
  | i :: r, ρ, hi, h => by
    obtain ⟨⟨S, hS, hh⟩, hd⟩ := hi i List.mem_cons_self
    have hr := fun j hj => hi j (List.mem_cons_of_mem _ hj)
    have key : ∀ d, (ops[i]?).bind (·.dst) = some d → ∀ u, u = vs i → finG J sp ops G r ((d, u) :: ρ) →
        ∃ ρ', G ρ' ∧ ∀ t v, look ρ' t = some v → (look ρ t = some v ∧ ∀ j ∈ i :: r, (ops[j]?).bind (·.dst) ≠ some t) ∨ a.tmps[t]? = some v := by
      rintro d hdd u rfl hg
      obtain ⟨ρ', h1, h2⟩ := finG_elim r _ hr hg
      refine ⟨ρ', h1, fun t v hv => ?_⟩
      rcases h2 t v hv with ⟨h3, h4⟩ | h3
      · rw [look_cons] at h3
        by_cases e : d = t
        · subst e
          simp at h3
          exact .inr (h3 ▸ hd d hdd)
        · rw [if_neg e] at h3
          refine .inl ⟨h3, fun j hj => ?_⟩
          rcases List.mem_cons.1 hj with rfl | hj
          · rw [hdd]; exact fun he => e (Option.some.inj he)
          · exact h4 j hj
      · exact .inr h3
    unfold finG at h
    cases hdd : (ops[i]?).bind (·.dst) with
    | none => simp only [hdd] at h
    | some d =>
      simp only [hdd, hS] at h
      cases S with
      | is x => exact key d hdd x hh.symm h
      | val p m => exact key d hdd (vs i) rfl (h (vs i) hh)
      | new o => exact h.elim
theorem late2 {sp2 : Nat → Option Spec} {J1 : Im} {L2 : Lh} {fl : Nat → Bool} {ρ' : Env} {Q' : Exit → Act → World → Prop} (hN : dstOk N l = true) (hback : edgesBack l.toArray = true) (hok : ∀ i, i < n → opOk l.toArray n ss i = true)
    (hdst : dstsOk l.toArray n = true) (hlt : n < l.length) (htail : ∀ t, n < t → t < l.length → if t = n + 1 then ∀ i, i < n + 1 → Region.waitsFor .any l.toArray t i = true else Region.waitsFor .any l.toArray t (t - 1) = true)
    (hseq : Region.seqB .any l.toArray (l.length - (n + 1)) (n + 1) (headAll l.length (n + 1)) = true)
    (hd : ∀ i, i < n → fl i = true → ∀ o s, l[i]? = some o → ss[i]? = some s → ∃ S, sp2 i = some S ∧ duty P N l.toArray sp2 ρ0 J1 L2 o s S)
    (hfin : ∀ listed J vs bs a w, PInv C N n (n + 1) n0 l.toArray sp2 ρ0 J1 L2 listed J vs bs a w → (∀ j, j < n → listed.getD j false = true) →
      (∀ t v, look ρ' t = some v → (∀ j, j < n → fl j = true → (l.toArray[j]?).bind (·.dst) ≠ some t) → a.tmps[t]? = some v) → wpList P l.toArray Q' (l.drop (n + 1)) a w) :
    ∀ (m : Nat) (listed : Array Bool) J vs bs a w, PInv C N n (n + 1) n0 l.toArray sp2 ρ0 J1 L2 listed J vs bs a w → (∀ j, j < n → fl j = false → listed.getD j false = true) → listed.getD n false = true →
      (∀ t v, look ρ' t = some v → (∀ j, j < n → fl j = true → (l.toArray[j]?).bind (·.dst) ≠ some t) → a.tmps[t]? = some v) →
      unl listed n = m → wpAny P .any l.toArray Q' (m + (l.length - (n + 1))) listed a w
  | 0, listed, J, vs, bs, a, w, inv, hnf, hn, hkeep, hm => by
    have hsz : listed.size = l.length := by simpa using inv.head.size
    have hall : ∀ j, j < n → listed.getD j false = true := fun j hj => getD_both' (by omega) (unl_zero hm j hj)
    have heq : listed = headAll l.length (n + 1) := by
      refine Array.ext (by simp [headAll, hsz]) fun j h1 h2 => ?_
      have e1 : (headAll l.length (n + 1))[j]'h2 = Nat.blt j (n + 1) := by simp [headAll]
      rw [e1]
      by_cases hj : j < n + 1
      · have : listed.getD j false = true := by
          by_cases e : j = n
          · subst e; exact hn
          · exact hall j (by omega)
        simp [h1] at this
        rw [this]
        exact (Nat.blt_eq ▸ hj : Nat.blt j (n + 1) = true).symm
      · have := inv.head.tail j (by omega) (by simp; omega)
        simp [h1] at this
        rw [this]
        cases hb : Nat.blt j (n + 1)
        · rfl
        · exact absurd (Nat.blt_eq ▸ hb : j < n + 1) hj
    have hw := hfin listed J vs bs a w inv hall hkeep
    have h2 := wpAny_of_seq (md := .any) (Q' := Q') (l.drop (n + 1)) (n + 1) listed a w (fun j => by simp [List.getElem?_drop]) (by rw [heq]; simpa using hseq) hw
    simpa using h2
  | m + 1, listed, J, vs, bs, a, w, inv, hnf, hn, hkeep, hm => by
    have hsz : listed.size = l.length := by simpa using inv.head.size
    obtain ⟨i, hin, hi, hltu⟩ := unl_pos hm
    have hr := ready_of_least hback (by simpa using inv.head.size) hi hltu
    rw [show m + 1 + (l.length - (n + 1)) = (m + (l.length - (n + 1))) + 1 by omega]
    refine ⟨fun h0 => (by rw [h0] at hr; cases hr), fun j hj => ?_⟩
    obtain ⟨hju, oj, hoj, hjall⟩ := mem_ready.1 hj
    have hjl : j < l.length := by simpa using (Array.getElem?_eq_some_iff.1 hoj).1
    have hw : ∀ k, Region.waitsFor .any l.toArray j k = true → listed.getD k false = true := fun k hk => by
      obtain ⟨e, he, hb, heq⟩ := waits_mem hoj hk
      exact heq ▸ hjall e he hb
    have hjn : j < n := by
      rcases Nat.lt_trichotomy j n with h | h | h
      · exact h
      · subst h; rw [getD_both hju] at hn; cases hn
      · have ht := htail j h hjl
        by_cases e : j = n + 1
        · rw [if_pos e] at ht
          have := hw i (ht i (by omega))
          rw [getD_both hi] at this; cases this
        · rw [if_neg e] at ht
          have := hw _ ht
          have h2 := inv.head.tail (j - 1) (by omega) (by simp; omega)
          rw [getD_both h2] at this; cases this
    have hfj : fl j = true := by
      cases hf : fl j with
      | true => rfl
      | false => have := hnf j hjn hf; rw [getD_both hju] at this; cases this
    refine inv.step hN hok hdst (by omega) hj hjn (hd j hjn hfj) fun J' vs' bs' a' w' inv' ha' => ?_
    have hput : ∀ k, k ≠ j → (listed.setIfInBounds j true).getD k false = listed.getD k false := fun k hk => getD_set_ne false (Ne.symm hk)
    refine late2 hN hback hok hdst hlt htail hseq hd hfin m _ J' vs' bs' a' w' inv' (fun k hk hf => ?_) (by rw [hput n (by omega)]; exact hn) (fun t v hv hno => ?_) ?_
    · rw [hput k (by intro e; subst e; rw [hfj] at hf; cases hf)]; exact hnf k hk hf
    · obtain ⟨u, hu⟩ := ha'
      rw [hu oj (by simpa using hoj)]
      cases hod : oj.dst with
      | none => exact hkeep t v hv hno
      | some d =>
        have : d ≠ t := fun e => hno j hjn hfj (by rw [hoj]; simp [hod, e])
        simp only [Act.put, Array.getElem?_setIfInBounds_ne this]
        exact hkeep t v hv hno
    · have := unl_set hju hjn
      omega

theorem late1 {fl : Nat → Bool} {o : Oper} {Q' : Exit → Act → World → Prop} (ho : l[n]? = some o) (hog : o.guard = none) (hN : dstOk N l = true) (hback : edgesBack l.toArray = true) (hok : ∀ i, i < n → opOk l.toArray n ss i = true)
    (hdst : dstsOk l.toArray n = true) (hwait : ∀ i, i < n → fl i = false → Region.waitsFor .any l.toArray n i = true)
    (htail : ∀ t, n < t → t < l.length → if t = n + 1 then ∀ i, i < n + 1 → Region.waitsFor .any l.toArray t i = true else Region.waitsFor .any l.toArray t (t - 1) = true)
    (hd : ∀ i o s, i < n → l[i]? = some o → ss[i]? = some s → ∃ S, sp i = some S ∧ duty P N l.toArray sp ρ0 I L o s S)
    (hstore : ∀ listed J vs bs a w, PInv C N n n n0 l.toArray sp ρ0 I L listed J vs bs a w → (∀ j, j < n → fl j = false → listed.getD j false = true) → n ∈ Region.ready .any l.toArray listed →
      o.wp P a w (fun a' w' => wpAny P .any l.toArray Q' (unl listed n + (l.length - (n + 1))) (listed.setIfInBounds n true) a' w') Q') :
    ∀ (m : Nat) (listed : Array Bool) J vs bs a w, PInv C N n n n0 l.toArray sp ρ0 I L listed J vs bs a w → unl listed n = m → wpAny P .any l.toArray Q' (m + (l.length - (n + 1)) + 1) listed a w
  | m, listed, J, vs, bs, a, w, inv, hm => by
    have hsz : listed.size = l.length := by simpa using inv.head.size
    have hnl : n < l.length := by
      rcases Nat.lt_or_ge n l.length with h | h
      · exact h
      · rw [List.getElem?_eq_none h] at ho; cases ho
    have hun := inv.head.tail n (Nat.le_refl _) (by simpa using hnl)
    have hne : ∃ i, i ∈ Region.ready .any l.toArray listed := by
      cases m with
      | zero => exact ⟨n, ready_of_least hback (by simpa using inv.head.size) hun (unl_zero hm)⟩
      | succ m =>
        obtain ⟨i, hin, hi, hltu⟩ := unl_pos hm
        exact ⟨i, ready_of_least hback (by simpa using inv.head.size) hi hltu⟩
    refine ⟨fun h0 => (by obtain ⟨i, hi⟩ := hne; rw [h0] at hi; cases hi), fun j hj => ?_⟩
    obtain ⟨hju, oj, hoj, hjall⟩ := mem_ready.1 hj
    have hjl : j < l.length := by simpa using (Array.getElem?_eq_some_iff.1 hoj).1
    have hw : ∀ k, Region.waitsFor .any l.toArray j k = true → listed.getD k false = true := fun k hk => by
      obtain ⟨e, he, hb, heq⟩ := waits_mem hoj hk
      exact heq ▸ hjall e he hb
    rcases Nat.lt_trichotomy j n with hjn | hjn | hjn
    · have hu := unl_set hju hjn
      cases m with
      | zero => omega
      | succ m =>
        refine inv.step hN hok hdst (Nat.le_refl _) hj hjn (fun o s h1 h2 => hd j o s hjn h1 h2) fun J' vs' bs' a' w' inv' _ => ?_
        have := late1 ho hog hN hback hok hdst hwait htail hd hstore m _ J' vs' bs' a' w' inv' (by omega)
        rwa [show m + 1 + (l.length - (n + 1)) = m + (l.length - (n + 1)) + 1 by omega]
    · subst hjn
      have := hstore listed J vs bs a w inv (fun k hk hf => hw k (hwait k hk hf)) hj
      have hoj' : oj = o := by
        have : l.toArray[j]? = some o := by simpa using ho
        exact Option.some.inj (hoj.symm.trans this)
      subst hoj'
      unfold wpOp
      simp only [hoj]
      rw [if_pos (by simp [Region.wanted, hog])]
      rw [hm] at this
      exact .inl this
    · have ht := htail j hjn hjl
      by_cases e : j = n + 1
      · rw [if_pos e] at ht
        have := hw n (ht n (by omega))
        rw [getD_both hun] at this; cases this
      · rw [if_neg e] at ht
        have := hw _ ht
        have h2 := inv.head.tail (j - 1) (by omega) (by simp; omega)
        rw [getD_both h2] at this; cases this
theorem floatAt_iff {fl : List Nat} {i : Nat} : floatAt fl i = true ↔ i ∈ fl := by
  simp [floatAt, List.any_eq_true]
/-- A REGION THAT DRAWS ITS ORDER, WITH ONE STORE (operation n) THAT THE OPERATIONS fl MAY FOLLOW OR PRECEDE. Of the floating operations it is shown that they answer alike ahead of the store and behind it. -/
theorem wpS.drawLate {Q : Exit → Env → Im → Lh → Prop} {id : Nat} (hm : P.follows .mixedOrders = true) (n : Nat) (ss : List (List (Nat × Nat))) (fl : List Nat)
    (hN : dstOk N l = true) (hB : lateOk l.toArray n ss fl = true) (hss : Nat.ble n ss.length = true)
    (hch : chain P N l.toArray ρ0 I L (fun acc => (fl.all fun i => match lookS acc i with | some (.new _) => false | _ => true) = true ∧ ∀ J, Le I J → finF J (lookS acc) (floatAt fl) (fun ρ L' =>
        match l[n]? with
        | some o => OpS P C N o ρ J L' (fun _ J1 L2 => Le J J1 ∧ duties P N l.toArray ss (lookS acc) ρ0 J1 L2 (∀ J2, Le J1 J2 → finG J2 (lookS acc) l.toArray (fun ρ2 => wpL P C N l.toArray Q (l.drop (n + 1)) ρ2 J2 L2) fl ρ) fl)
        | none => False) (l.take n) 0 ρ0 L) (l.take n) ss 0 []) :
    wpS P C N (.region id l.toArray true) Q ρ0 I L := fun a w ha hs => by
  have hB0 := hB
  simp only [lateOk, Bool.and_eq_true] at hB
  obtain ⟨⟨⟨⟨⟨⟨⟨⟨hlt, hback⟩, hok⟩, hdst⟩, hop⟩, hwait⟩, hfl⟩, htail⟩, hseq⟩ := hB
  have hlt' : n < l.length := by simpa [Nat.blt_eq] using hlt
  obtain ⟨o, ho⟩ : ∃ o, l[n]? = some o := ⟨_, List.getElem?_eq_getElem hlt'⟩
  have hoA : l.toArray[n]? = some o := by simpa using ho
  rw [hoA] at hop
  simp only [Bool.and_eq_true, Option.isNone_iff_eq_none] at hop
  obtain ⟨hod, hog⟩ := hop
  have hok' : ∀ i, i < n → opOk l.toArray n ss i = true := fun i hi => List.all_eq_true.1 hok i (List.mem_range.2 hi)
  obtain ⟨full, ⟨hnew, hfin⟩, _, hduty⟩ := chain_elim (Nat.le_of_lt hlt') (Nat.le_of_ble_eq_true hss) n 0 [] (by omega) (fun j hj => absurd rfl hj) (by simpa using hch)
  rw [ho] at hfin
  have hwait' : ∀ i, i < n → floatAt fl i = false → Region.waitsFor .any l.toArray n i = true := fun i hi hf => by
    have := List.all_eq_true.1 hwait i (List.mem_range.2 hi)
    rw [hf] at this
    simpa using this
  have htail' : ∀ t, n < t → t < l.length → if t = n + 1 then ∀ i, i < n + 1 → Region.waitsFor .any l.toArray t i = true else Region.waitsFor .any l.toArray t (t - 1) = true := fun t h1 h2 => by
    have h3 := List.all_eq_true.1 htail t (List.mem_range.2 (by simpa using h2))
    have h4 : Nat.ble t n = false := by
      cases hb : Nat.ble t n
      · rfl
      · have := Nat.le_of_ble_eq_true hb; omega
    rw [h4] at h3
    by_cases e : t = n + 1
    · subst e
      simp only [if_true]
      simp only [Bool.false_or, beq_self_eq_true, if_true] at h3
      exact fun i hi => List.all_eq_true.1 h3 i (List.mem_range.2 hi)
    · rw [if_neg e]
      simpa [e] using h3
  have hd : ∀ i o s, i < n → l[i]? = some o → ss[i]? = some s → ∃ S, lookS full i = some S ∧ duty P N l.toArray (lookS full) ρ0 I L o s S := fun i o s hi ho hsi => by
    obtain ⟨S, acc', h1, h2, h3⟩ := hduty i o s (Nat.zero_le _) hi ho hsi
    have hoi := hok' i hi
    unfold opOk at hoi
    have ho' : l.toArray[i]? = some o := by simpa using ho
    simp only [ho', hsi, Bool.and_eq_true] at hoi
    have hback' : ∀ j, Region.waitsFor .any l.toArray i j = true → j < i := fun j hw => by
      obtain ⟨e, he, hb, heq⟩ := waits_mem ho' hw
      have hil : i < l.toArray.size := (Array.getElem?_eq_some_iff.1 ho').1
      have h4 := List.all_eq_true.1 hback i (List.mem_range.2 hil)
      simp only [ho', Array.all_eq_true_iff_forall_mem] at h4
      have h5 := h4 e he
      rw [hb] at h5
      have : e.on < i := by simpa [Nat.blt_eq] using h5
      omega
    refine ⟨S, h1, duty_congr h2 (fun t ht j hj => ?_) (fun g w hg => ?_)⟩
    · have h6 := List.all_eq_true.1 hoi.1.2 t ht
      unfold readOk at h6
      simp only [hj, Bool.and_eq_true] at h6
      exact h3 j (hback' j h6.2)
    · have h6 := hoi.2
      rw [hg] at h6
      simp only [Bool.and_eq_true] at h6
      exact h3 g (hback' g h6.2)
  have hs' : St C I L { w with drawn := w.drawn + 1 } := ⟨⟨hs.mem.im, hs.mem.loc, hs.mem.sep, hs.mem.nodup⟩, ⟨hs.chg.os, hs.chg.tape, hs.chg.output, hs.chg.size, hs.chg.block⟩, hs.own, hs.im0, hs.new⟩
  refine wp_region_any hm ?_
  have inv0 : PInv C N n n w.heap.size l.toArray (lookS full) ρ0 I L (Array.replicate l.toArray.size false) I (fun _ => undef) (fun _ => 0) a { w with drawn := w.drawn + 1 } := by
    have hnl : ∀ j, (Array.replicate l.toArray.size false).getD j false = true → False := fun j hl => by rw [getD_replicate_false] at hl; cases hl
    refine ⟨⟨by simp, fun j oj _ hl => (hnl j hl).elim, fun t _ ht => getD_in (by simpa using ht) (getD_replicate_false _ _)⟩, Le.refl _, hs', Nat.le_refl _, fun p hp => lt_of_get (hs.mem.loc p hp), hs.chg.size,
      fun j _ hl => (hnl j hl).elim, fun j k _ _ hl => (hnl j hl).elim, fun j _ hl => (hnl j hl).elim, ha.defers, ha.size, fun j d _ hl => (hnl j hl).elim, fun t v hv _ => ha.tmp t v hv⟩
  have hunl : unl (Array.replicate l.toArray.size false) n = n := by
    have key : ∀ k, k ≤ l.toArray.size → unl (Array.replicate l.toArray.size false) k = k := by
      intro k
      induction k with
      | zero => intro _; rfl
      | succ k ih =>
        intro hk
        rw [unl, ih (by omega), if_pos (getD_in (by simp at hk ⊢; omega) (getD_replicate_false _ _))]
    exact key n (by simpa using Nat.le_of_lt hlt')
  have hmain := late1 (C := C) (n0 := w.heap.size) (Q' := liftQ C N Q) (fl := floatAt fl) ho hog hN hback hok' hdst hwait' htail' hd
    (fun listed J vs bs a' w' inv hnf hrdy => by
      obtain ⟨ρ', L', h1, h2, h3⟩ := finF_elim inv (Nat.le_of_lt hlt') hnf (l.take n) 0 ρ0 L (fun j => by simp) (Nat.zero_le _)
        (fun t v hv hno => inv.tmpO t v hv (fun j hj _ => hno j (Nat.zero_le _) hj)) inv.st (fun p hp => .inl hp) (hfin J inv.le)
      refine Yld.wp ((h3 a' w' h1 h2).mono ?_)
      rintro v w2 ⟨J1, L2, hs2, hle1, hdu⟩
      rw [hod]
      show wpAny P .any l.toArray (liftQ C N Q) _ _ a' w2
      obtain ⟨hG, hdu2⟩ := duties_elim hdu
      let sp2 : Nat → Option Spec := fun j => if floatAt fl j = true then lookS full j else some (.is (vs j))
      have hsp2 : ∀ j, floatAt fl j = true → sp2 j = lookS full j := fun j hj => by simp [sp2, hj]
      have hnonew : ∀ j ob, sp2 j ≠ some (.new ob) := fun j ob he => by
        by_cases hj : floatAt fl j = true
        · rw [hsp2 j hj] at he
          have := hnew j (floatAt_iff.1 hj)
          rw [he] at this
          cases this
        · simp [sp2, hj] at he
      have hsz : listed.size = l.length := by simpa using inv.head.size
      have hput : ∀ j, j ≠ n → (listed.setIfInBounds n true).getD j false = listed.getD j false := fun j hj => getD_set_ne false (Ne.symm hj)
      have inv2 : PInv C N n (n + 1) w2.heap.size l.toArray sp2 ρ0 J1 L2 (listed.setIfInBounds n true) J1 vs bs a' w2 := by
        have hh : HeadInv .any l.toArray (n + 1) listed := ⟨inv.head.size, inv.head.closed, fun t h4 h5 => inv.head.tail t (by omega) h5⟩
        refine ⟨hh.set hrdy (by omega), Le.refl _, hs2, Nat.le_refl _, fun p hp => lt_of_get (hs2.mem.loc p hp), hs2.chg.size, fun j hj hl ob hob => absurd hob (hnonew j ob), fun j k _ _ _ _ hoj _ _ => ?_, fun j hj hl => ?_,
          h1.defers, h1.size, fun j d hj hl hd' => ?_, fun t u hu hno => ?_⟩
        · obtain ⟨ob, hob⟩ := hoj
          exact absurd hob (hnonew j ob)
        · rw [hput j (by omega)] at hl
          by_cases hfj : floatAt fl j = true
          · obtain ⟨S, hS, hh2, _⟩ := inv.val j hj hl
            refine ⟨S, by rw [hsp2 j hfj]; exact hS, Spec.holds_mono hh2 hle1, fun ob hob => ?_⟩
            exact absurd (by rw [hsp2 j hfj, hS, hob]) (hnonew j ob)
          · exact ⟨.is (vs j), by simp [sp2, hfj], rfl, fun ob hob => by cases hob⟩
        · rw [hput j (by omega)] at hl
          exact inv.tmpI j d hj hl hd'
        · exact inv.tmpO t u hu fun j hj hl => hno j hj (by rw [hput j (by omega)]; exact hl)
      have hflo : ∀ i, i < n → floatAt fl i = true → ∀ o s, l[i]? = some o → ss[i]? = some s → ∃ S, sp2 i = some S ∧ duty P N l.toArray sp2 ρ0 J1 L2 o s S := fun i hi hf oi s hoi hsi => by
        obtain ⟨S, hS, hdd⟩ := hdu2 i (floatAt_iff.1 hf) oi s (by simpa using hoi) hsi
        have hfi := List.all_eq_true.1 hfl i (floatAt_iff.1 hf)
        have hoiA : l.toArray[i]? = some oi := by simpa using hoi
        rw [hoiA, hsi] at hfi
        simp only [Bool.and_eq_true, Option.isNone_iff_eq_none] at hfi
        refine ⟨S, by rw [hsp2 i hf]; exact hS, duty_congr hdd (fun t ht j hj => ?_) (fun g w hg => ?_)⟩
        · have := List.all_eq_true.1 hfi.2.2 t ht
          rw [hj] at this
          exact (hsp2 j this).symm
        · rw [hfi.2.1] at hg; cases hg
      refine late2 hN hback hok' hdst hlt' htail' (by simpa using hseq) hflo (ρ' := ρ') (fun listed3 J3 vs3 bs3 a3 w3 inv3 hall3 hkeep3 => ?_) _ _ J1 vs bs a' w2 inv2 (fun j hj hf => by rw [hput j (by omega)]; exact hnf j hj hf)
        (getD_set_true' (by omega)) (fun t v hv _ => h1.tmp t v hv) (unl_set_ge (Nat.le_refl _))
      obtain ⟨ρ2, hG2, hl2⟩ := finG_elim (a := a3) (vs := vs3) fl ρ' (fun i hi => by
        have hfi := List.all_eq_true.1 hfl i hi
        simp only [Bool.and_eq_true] at hfi
        have hin : i < n := by simpa [Nat.blt_eq] using hfi.1
        obtain ⟨S, hS, hh3, _⟩ := inv3.val i hin (hall3 i hin)
        refine ⟨⟨S, by rw [← hsp2 i (floatAt_iff.2 hi)]; exact hS, hh3⟩, fun d hdd => inv3.tmpI i d hin (hall3 i hin) hdd⟩) (hG J3 inv3.le)
      have hNd : dstOk N (l.drop (n + 1)) = true := by
        simp only [dstOk, List.all_eq_true] at hN ⊢
        exact fun o ho => hN o (List.mem_of_mem_drop ho)
      refine hG2 hNd a3 w3 ⟨inv3.defers, inv3.size, fun t v hv => ?_⟩ inv3.st
      rcases hl2 t v hv with ⟨h4, h5⟩ | h4
      · exact hkeep3 t v h4 fun j hj hf => h5 j (floatAt_iff.1 hf)
      · exact h4)
    n _ _ _ _ _ _ inv0 hunl
  rw [show n + (l.length - (n + 1)) + 1 = l.toArray.size by simp; omega] at hmain
  exact hmain
end late
end Go.Fl
