/- Plain Lean over any program, and walks of this seat's functions: contracts, each proved once (part 1). -/
import Derived.Test.YtpkdbddhekffgaaGreatDoorZ0
import Derived.Laws.BytesArg
import Derived.Lib.LaidTab
import Derived.Shelf.Bytes.SlJoin
import Derived.Laws.StructEq
set_option linter.unusedVariables false
set_option linter.unusedSimpArgs false
namespace Go.Ab
open Go.Fl Go.RowKit
open Rep (rep)
variable {P : Program} {C : Ctx} {N : Nat} {σ : AEnv} {H : AHeap} {K : AV → Prop} {KH : AV → AHeap → Prop} {d : Option Nat} {ty : TypeId} {ps : String} {af : Array Edge} {g : Option (Nat × Bool)}
variable {x y z : Operand} {T T2 E S D U : TypeId}
theorem repL_u8 {I : Im} : ∀ {l : List UInt8} {cs : List Value}, repL I l cs ↔ cs = bytesV l
  | [], cs => by simp [repL, bytesV]
  | x :: l, cs => by
    constructor
    · rintro ⟨c, r, rfl, h1, h2⟩
      rw [repL_u8.1 h2, show c = [Fl.u8 x] from h1]; rfl
    · rintro rfl
      exact ⟨[Fl.u8 x], bytesV l, rfl, rfl, repL_u8.2 rfl⟩
theorem str_eq {a b : ByteArray} {s t : Str} (ha : a.data.toList = s.l) (hb : b.data.toList = t.l) : (a.toList == b.toList) = decide (s = t) := by
  have h1 : ∀ q : ByteArray, q.toList = q.data.toList := fun q => ByteArray.toList_eq q
  rw [h1, h1, ha, hb]
  cases s; cases t
  exact Bool.eq_iff_iff.2 (by simp)
theorem OpP.eqlS {s t : Str} (hx : EvA C σ H x (.v s)) (hy : EvA C σ H y (.v t)) (k : K (.v (decide (s = t)))) : OpP P N C ⟨d, .binOp .eql T x y T2, ty, ps, af, g⟩ σ H K :=
  .vk k (fun ρ I L hst => by
    obtain ⟨a, h1, h2⟩ := hx.str hst
    obtain ⟨b, h3, h4⟩ := hy.str hst
    exact .mk ⟨_, rfl, rfl⟩ fun ac w ha hm => by simp [execOp, ha.ev h1, ha.ev h3, eqGuard, binOp_string_eql, str_eq h2 h4, asV, Rep.agg])
theorem OpP.neqS {s t : Str} (hx : EvA C σ H x (.v s)) (hy : EvA C σ H y (.v t)) (k : K (.v (decide (s ≠ t)))) : OpP P N C ⟨d, .binOp .neq T x y T2, ty, ps, af, g⟩ σ H K :=
  .vk k (fun ρ I L hst => by
    obtain ⟨a, h1, h2⟩ := hx.str hst
    obtain ⟨b, h3, h4⟩ := hy.str hst
    exact .mk ⟨_, rfl, rfl⟩ fun ac w ha hm => by
      have := str_eq h2 h4
      simp [execOp, ha.ev h1, ha.ev h3, eqGuard, binOp, Op.stringOp, asV, Rep.agg] at this ⊢
      first | exact this | (simp [bne, this]))
theorem OpH.strBytes {s : Str} (hS : P.underlying S = some .string) (hD : P.underlying D = some (.slice E)) (hE : P.underlying E = some (.int .u8)) (hx : EvA C σ H x (.v s))
    (k : ∀ w, KH (.raw w) ((true, .own E w s.l) :: H)) : OpH P C N ⟨d, .convert S D x, ty, ps, af, g⟩ σ H KH :=
  .ofX fun ρ I L hs a w ha hm => by
    obtain ⟨b, h1, h2⟩ := hx.str hs
    have hb := hx.strLe hs
    have hsz : b.size = s.l.length := by rw [← h2]; rfl
    have hrun := run_bytes_of_string (P := P) w S D E b hS hD hE
    have hop : (execOp a.eval ⟨d, .convert S D x, ty, ps, af, g⟩).run P w = ((convert S D (.string b)).run P w).andThen fun v w' => .ok (.value v) w' := by
      simp [execOp, ha.ev h1]
    rw [hop, hrun]
    generalize hC : bytesRow b (grownCap w b.size 0 E) = R
    have hcap : grownCap w b.size 0 E ≥ b.size := grownCap_ge w b.size 0 E
    have hcapm : grownCap w b.size 0 E ≤ maxLen := grownCap_le_maxLen w b.size 0 E (by rw [hsz]; unfold maxLen; omega)
    generalize grownCap w b.size 0 E = c at *
    have hR : R.toList = bytesV s.l ++ List.replicate (c - b.size) (Value.int .u8 0) := by
      rw [← hC, ← h2]
      simp [bytesRow, bytesV, Fl.u8]
    have hnI : I w.heap.size = none := by
      cases hi : I w.heap.size with
      | none => rfl
      | some o => have := lt_of_get (hm.im _ _ hi); omega
    have hnew : (w.drew.alloc (.cells R E (R.size, R.size + 1))).heap[w.heap.size]? = some (.cells R E (R.size, R.size + 1)) := by
      show (w.heap.push _)[w.heap.size]? = _
      simp
    have hold : ∀ k, k < w.heap.size → (w.drew.alloc (.cells R E (R.size, R.size + 1))).heap[k]? = w.heap[k]? := fun k hk => by
      show (w.heap.push _)[k]? = _
      rw [Array.getElem?_push_lt hk, Array.getElem?_eq_getElem hk]
    have hRl : R = (bytesV s.l ++ List.replicate (c - b.size) (Value.int .u8 0)).toArray := by rw [← hR]
    have hbl : (bytesV s.l).length = s.l.length := by simp [bytesV]
    refine ⟨I, [[(w.heap.size, .cells R E (R.size, R.size + 1))]], ⟨rfl, rfl, rfl, by show _ ≤ (w.heap.push _).size; simp, fun k hk _ => hold k hk⟩, Le.refl I, fun b h0 h1 => absurd h0 h1, ⟨fun b o hb => ?_, fun p hp => ?_, fun p hp => ?_, ?_⟩, ?_, .raw (slc w.heap.size 0 b.size c), .own E (slc w.heap.size 0 b.size c) s.l, _, rfl, rfl, ⟨bytesV s.l, .inr ⟨w.heap.size, c, _, (R.size, R.size + 1), by rw [hsz], by rw [hRl], by rw [hbl]; exact (Nat.mul_one _).symm, ?_, by omega, hcapm, .inr ?_⟩, repL_u8.2 rfl⟩, k _⟩
    · exact (hold b (lt_of_get (hm.im b o hb))).trans (hm.im b o hb)
    · simp only [List.cons_append, List.nil_append, List.flatten_cons, List.mem_cons] at hp
      rcases hp with rfl | hp
      · exact hnew
      · exact (hold _ (lt_of_get (hm.loc p hp))).trans (hm.loc p hp)
    · simp only [List.cons_append, List.nil_append, List.flatten_cons, List.mem_cons] at hp
      rcases hp with rfl | hp
      · exact hnI
      · exact hm.sep p hp
    · simp only [List.cons_append, List.nil_append, List.flatten_cons, List.map_cons, List.nodup_cons, List.mem_map, not_exists, not_and]
      refine ⟨fun p hp e => ?_, hm.nodup⟩
      have := lt_of_get (hm.loc p hp)
      omega
    · intro p hp; simp at hp; subst hp; exact Nat.le_refl _
    · rw [List.length_append, hbl, List.length_replicate]
      show _ = c * 1
      omega
    · rw [hRl]; simp
end Go.Ab
set_option linter.unusedVariables false
namespace Go.Ab
open Go.Fl Go.RowKit
open Rep (rep)
theorem ne_not {b w : Bool} (h : ¬ b = w) : b = !w := by cases b <;> cases w <;> simp_all
def plan (P : Program) (C : Ctx) (N : Nat) (σ0 : AEnv) (accP : List (Nat × AV)) (F : List (Nat × AV) → AHeap → Prop) : List (Nat × Oper × List (Nat × Nat)) → List (Nat × AV) → AHeap → Prop
  | [], cacc, H => F cacc H
  | (i, o, s) :: rest, cacc, H =>
    match o.guard, lookR accP i with
    | none, none => OpH P C N o (envOf σ0 (cacc ++ accP) s (opTmps o)) H (fun r H' => plan P C N σ0 accP F rest ((i, r) :: cacc) H')
    | none, some r0 => OpH P C N o (envOf σ0 (cacc ++ accP) s (opTmps o)) H (fun r H' => r = r0 ∧ plan P C N σ0 accP F rest ((i, r0) :: cacc) H')
    | some (g, want), none => ∃ b, lookR accP g = some (.v b) ∧ (b = want → OpH P C N o (envOf σ0 (cacc ++ accP) s (opTmps o)) H (fun r H' => plan P C N σ0 accP F rest ((i, r) :: cacc) H')) ∧
        (b = (!want) → plan P C N σ0 accP F rest ((i, .any) :: cacc) H)
    | some (g, want), some r0 => ∃ b c, lookR accP g = some (.v b) ∧ r0 = .opt (b == want) c ∧ (b = want → OpH P C N o (envOf σ0 (cacc ++ accP) s (opTmps o)) H (fun r H' => r = c ∧ plan P C N σ0 accP F rest ((i, r0) :: cacc) H')) ∧
        (b = (!want) → plan P C N σ0 accP F rest ((i, r0) :: cacc) H)
def planK (P : Program) (C : Ctx) (N : Nat) (σ0 : AEnv) {ι : Type 1} (HT : ι → AHeap) (accP : List (Nat × AV)) (F : List (Nat × AV) → AHeap → Prop) : List (Nat × Oper × List (Nat × Nat)) → List (Nat × AV) → AHeap → Prop
  | [], cacc, H => (∃ Hp, H = HT Hp) ∧ F cacc H
  | (i, o, s) :: rest, cacc, H => (∃ Hp, H = HT Hp) ∧
    match o.guard, lookR accP i with
    | none, none => OpH P C N o (envOf σ0 (cacc ++ accP) s (opTmps o)) H (fun r H' => planK P C N σ0 HT accP F rest ((i, r) :: cacc) H')
    | none, some r0 => OpH P C N o (envOf σ0 (cacc ++ accP) s (opTmps o)) H (fun r H' => r = r0 ∧ planK P C N σ0 HT accP F rest ((i, r0) :: cacc) H')
    | some (g, want), none => ∃ b, lookR accP g = some (.v b) ∧ (b = want → OpH P C N o (envOf σ0 (cacc ++ accP) s (opTmps o)) H (fun r H' => planK P C N σ0 HT accP F rest ((i, r) :: cacc) H')) ∧
        (b = (!want) → planK P C N σ0 HT accP F rest ((i, .any) :: cacc) H)
    | some (g, want), some r0 => ∃ b c, lookR accP g = some (.v b) ∧ r0 = .opt (b == want) c ∧ (b = want → OpH P C N o (envOf σ0 (cacc ++ accP) s (opTmps o)) H (fun r H' => r = c ∧ planK P C N σ0 HT accP F rest ((i, r0) :: cacc) H')) ∧
        (b = (!want) → planK P C N σ0 HT accP F rest ((i, r0) :: cacc) H)
theorem planK.tail {P : Program} {C : Ctx} {N : Nat} {σ0 : AEnv} {ι : Type 1} {HT : ι → AHeap} {accP : List (Nat × AV)} {F : List (Nat × AV) → AHeap → Prop} : ∀ {l : List (Nat × Oper × List (Nat × Nat))} {cacc : List (Nat × AV)} {H : AHeap}, planK P C N σ0 HT accP F l cacc H → ∃ Hp, H = HT Hp
  | [], _, _, h => h.1
  | _ :: _, _, _, h => h.1
def chainOk (ops : Array Oper) (n : Nat) (ss : List (List (Nat × Nat))) (ci : List Nat) : Bool :=
  (List.range ci.length).all (fun k => match ci[k]? with
    | some i => Nat.blt i n && (match k with | 0 => true | k' + 1 => match ci[k']? with | some j => Nat.blt j i && Region.waitsFor .any ops i j | none => false)
    | none => false)
theorem lookR_append (a b : List (Nat × AV)) (j : Nat) : lookR (a ++ b) j = (match lookR a j with | some r => some r | none => lookR b j) := by
  induction a with
  | nil => rfl
  | cons p a ih =>
    simp only [List.cons_append, lookR]
    cases Nat.beq p.1 j with
    | true => rfl
    | false => simpa using ih
theorem lookR_cons (i : Nat) (r : AV) (a : List (Nat × AV)) (j : Nat) : lookR ((i, r) :: a) j = if i = j then some r else lookR a j := by
  by_cases h : i = j
  · subst h; simp [lookR]
  · simp [lookR, h, beq_ne h]
theorem envOf_look {σ0 : AEnv} {acc : List (Nat × AV)} {s : List (Nat × Nat)} : ∀ {ts : List Nat} {t : Nat} {a : AV}, lookA (envOf σ0 acc s ts) t = some a → t ∈ ts ∧ (match srcOf s t with | none => lookA σ0 t | some j => lookR acc j) = some a
  | [], t, a, h => by simp [envOf, lookA] at h
  | u :: ts, t, a, h => by
    simp only [envOf] at h
    split at h
    · rename_i b hb
      rw [lookA_cons] at h
      by_cases e : u = t
      · subst e; simp at h; subst h; exact ⟨List.mem_cons_self, hb⟩
      · rw [if_neg e] at h
        have := envOf_look h
        exact ⟨List.mem_cons_of_mem _ this.1, this.2⟩
    · have := envOf_look h
      exact ⟨List.mem_cons_of_mem _ this.1, this.2⟩
theorem envOf_get {σ0 : AEnv} {acc : List (Nat × AV)} {s : List (Nat × Nat)} {t : Nat} {a : AV} (h : (match srcOf s t with | none => lookA σ0 t | some j => lookR acc j) = some a) : ∀ {ts : List Nat}, t ∈ ts → lookA (envOf σ0 acc s ts) t = some a
  | [], hm => by cases hm
  | u :: ts, hm => by
    by_cases e : u = t
    · subst e
      cases hs : srcOf s u with
      | none => simp only [hs] at h; simp only [envOf, hs, h]; rw [lookA_cons, if_pos rfl]
      | some j => simp only [hs] at h; simp only [envOf, hs, h]; rw [lookA_cons, if_pos rfl]
    · have hm' : t ∈ ts := by
        rcases List.mem_cons.1 hm with h1 | h1
        · exact absurd h1.symm e
        · exact h1
      simp only [envOf]
      split
      · rw [lookA_cons, if_neg e]; exact envOf_get h hm'
      · exact envOf_get h hm'
def opOkC (ops : Array Oper) (n : Nat) (ss : List (List (Nat × Nat))) (i : Nat) : Bool :=
  match ops[i]?, ss[i]? with
  | some o, some s => (opTmps o).all (readOk ops n i s) &&
    (match o.guard with | none => true | some (g, _) => Nat.blt g n && Region.waitsFor .any ops i g && ((ops[g]?).bind (·.dst)).isSome)
  | _, _ => false
def dstsOkC (ops : Array Oper) (n : Nat) : Bool := (List.range n).all fun i => (List.range i).all fun j => match (ops[i]?).bind (·.dst) with | some d => !((ops[j]?).bind (·.dst) == some d) | none => true
def phiOkC (ops : Array Oper) (n : Nat) (ss : List (List (Nat × Nat))) : Bool :=
  Nat.ble n ops.size && edgesBack ops && (List.range n).all (opOkC ops n ss) && dstsOkC ops n &&
  (n == ops.size || (Region.sinkB .any ops n && Region.chainB .any ops n)) && Region.seqB .any ops (ops.size - n) n (headAll ops.size n)
theorem put_defers (a : Act) (d : Option Nat) (v : Value) : (a.put d v).defers = a.defers := by cases d <;> rfl
theorem put_size (a : Act) (d : Option Nat) (v : Value) : (a.put d v).tmps.size = a.tmps.size := by cases d <;> simp [Act.put]
theorem put_ne (a : Act) {d : Option Nat} {t : Nat} (v : Value) (h : d ≠ some t) : (a.put d v).tmps[t]? = a.tmps[t]? := by
  cases d with
  | none => rfl
  | some d => simp [Act.put, Array.getElem?_setIfInBounds_ne (show d ≠ t from fun e => h (by rw [e]))]
theorem put_eq (a : Act) {d : Nat} (v : Value) (h : d < a.tmps.size) : (a.put (some d) v).tmps[d]? = some v := by simp [Act.put, h]
def dutyQ (P : Program) (N : Nat) (C : Ctx) (σ0 : AEnv) {ι : Type 1} (HT : ι → AHeap) (accP : List (Nat × AV)) (o : Oper) (s : List (Nat × Nat)) (r : AV) : Prop := ∀ Hp, dutyA P N C σ0 (HT Hp) accP o s r
structure CInv (P : Program) (C : Ctx) (N n : Nat) (l : List Oper) (ci : List Nat) (cl : List (Nat × Oper × List (Nat × Nat))) (σ0 : AEnv) {ι : Type 1} (HT : ι → AHeap) (accP : List (Nat × AV)) (F : List (Nat × AV) → AHeap → Prop) (ρ0 : Env) (I : Im)
    (listed : Array Bool) (k : Nat) (cacc : List (Nat × AV)) (H : AHeap) (J : Im) (L : Lh) (vs : Nat → Value) (a : Act) (w : World) : Prop where
  head : HeadInv .any l.toArray n listed
  le : Le I J
  im0 : Le C.I0 J
  st : St C J L w
  heap : repH C.w0.heap.size J H L
  kle : k ≤ ci.length
  ch : ∀ m i, ci[m]? = some i → (listed.getD i false = true ↔ m < k)
  pl : planK P C N σ0 HT accP F (cl.drop k) cacc H
  keys : ∀ j r, lookR cacc j = some r → j ∈ ci
  prom : ∀ j r r0, lookR cacc j = some r → lookR accP j = some r0 → r = r0
  proL : ∀ j, j ∈ ci → listed.getD j false = true → ∃ r, lookR cacc j = some r
  val : ∀ j, j < n → listed.getD j false = true → ∃ r, lookR (cacc ++ accP) j = some r ∧ RepV J r (vs j)
  defers : a.defers = []
  size : a.tmps.size = N
  tmpI : ∀ j d, j < n → listed.getD j false = true → (l.toArray[j]?).bind (·.dst) = some d → a.tmps[d]? = some (vs j)
  tmpO : ∀ t v, Fl.look ρ0 t = some v → (∀ j, j < n → listed.getD j false = true → (l.toArray[j]?).bind (·.dst) ≠ some t) → a.tmps[t]? = some v
section
variable {P : Program} {C : Ctx} {N n : Nat} {l : List Oper} {ci : List Nat} {cl : List (Nat × Oper × List (Nat × Nat))} {ss : List (List (Nat × Nat))} {σ0 : AEnv} {ι : Type 1} {HT : ι → AHeap} {accP : List (Nat × AV)} {F : List (Nat × AV) → AHeap → Prop} {ρ0 : Env} {I : Im} {L0 : Lh} {H0 : AHeap}
theorem CInv.step {listed : Array Bool} {k : Nat} {cacc : List (Nat × AV)} {H : AHeap} {J : Im} {L : Lh} {vs : Nat → Value} {a : Act} {w : World} {Q' : Exit → Act → World → Prop}
    (h0 : RSt C I L0 σ0 H0 ρ0) (hN : dstOk N l = true) (hok : ∀ i, i < n → opOkC l.toArray n ss i = true) (hdst : dstsOkC l.toArray n = true) (hch : chainOk l.toArray n ss ci = true)
    (hcl : ∀ (m i : Nat) (o : Oper) (s : List (Nat × Nat)), ci[m]? = some i → l[i]? = some o → ss[i]? = some s → cl[m]? = some (i, o, s)) (hnd : ci.Nodup)
    (hp : ∀ i o s, i < n → i ∉ ci → l[i]? = some o → ss[i]? = some s → ∃ r, lookR accP i = some r ∧ dutyQ P N C σ0 HT accP o s r)
    (inv : CInv P C N n l ci cl σ0 HT accP F ρ0 I listed k cacc H J L vs a w) {i : Nat} (hr : i ∈ Region.ready .any l.toArray listed) (hin : i < n)
    {K : Act → World → Prop} (hK : ∀ k cacc H J L vs a' w, CInv P C N n l ci cl σ0 HT accP F ρ0 I (listed.setIfInBounds i true) k cacc H J L vs a' w → K a' w) :
    wpOpIn C.fen 0 P l.toArray Q' i K a w := by
  obtain ⟨hun, o, ho, hall⟩ := mem_ready.1 hr
  have hol : l[i]? = some o := by simpa using ho
  have hok' := hok i hin
  unfold opOkC at hok'
  simp only [ho] at hok'
  cases hs : ss[i]? with
  | none => simp [hs] at hok'
  | some s =>
  simp only [hs, Bool.and_eq_true] at hok'
  obtain ⟨hreads, hguard⟩ := hok'
  have hdN : ∀ d, o.dst = some d → d < N := fun d hod => by
    have := List.all_eq_true.1 hN o (List.mem_of_getElem? hol)
    rw [hod] at this
    simpa [Nat.blt_eq] using this
  have hlisted : ∀ j, Region.waitsFor .any l.toArray i j = true → listed.getD j false = true := fun j hw => by
    obtain ⟨e, he, hb, heq⟩ := waits_mem ho hw
    exact heq ▸ hall e he hb
  have hilt : i < listed.size := by
    rcases Nat.lt_or_ge i listed.size with h' | h'
    · exact h'
    · simp [Array.getElem?_eq_none h'] at hun
  have hiun : listed.getD i false = false := getD_both hun
  have hnot : ∀ j, Region.waitsFor .any l.toArray j i = true → listed.getD j false = true → False := fun j hw hl => by
    obtain ⟨oj, hoj, e, he, hb, heq⟩ := Region.waitsFor_spec hw
    have := inv.head.closed j oj hoj hl e he hb
    rw [heq, hiun] at this
    cases this
  have hch1 := hch
  unfold chainOk at hch1
  let g : Nat → Option Value := fun t => match srcOf s t with | some j => some (vs j) | none => Fl.look ρ0 t
  have hsrcl : ∀ t ∈ opTmps o, ∀ j, srcOf s t = some j → j < n ∧ listed.getD j false = true ∧ (l.toArray[j]?).bind (·.dst) = some t := fun t ht j hj => by
    have hro := List.all_eq_true.1 hreads t ht
    unfold readOk at hro
    simp only [hj, Bool.and_eq_true, beq_iff_eq] at hro
    exact ⟨by simpa [Nat.blt_eq] using hro.1.1, hlisted j hro.2, hro.1.2⟩
  have hfits : Fits N (mkEnv g (opTmps o)) a := by
    refine ⟨inv.defers, inv.size, fun t v hv => ?_⟩
    obtain ⟨hmem, hg⟩ := look_mkEnv hv
    cases hsrc : srcOf s t with
    | some j =>
      obtain ⟨h1, h2, h3⟩ := hsrcl t hmem j hsrc
      have hgv : vs j = v := by simpa [g, hsrc] using hg
      rw [← hgv]
      exact inv.tmpI j t h1 h2 h3
    | none =>
      have hro := List.all_eq_true.1 hreads t hmem
      unfold readOk at hro
      simp only [hsrc] at hro
      refine inv.tmpO t v (by simpa [g, hsrc] using hg) fun j hj hl hdj => ?_
      have h1 := List.all_eq_true.1 hro j (List.mem_range.2 hj)
      simp only [hdj, beq_self_eq_true, Bool.not_true, Bool.false_or, Bool.or_eq_true, beq_iff_eq] at h1
      rcases h1 with h1 | h1
      · subst h1; rw [hiun] at hl; cases hl
      · exact hnot j h1 hl
  have henv : ∀ t b, lookA (envOf σ0 (cacc ++ accP) s (opTmps o)) t = some b → ∃ u, Fl.look (mkEnv g (opTmps o)) t = some u ∧ RepV J b u := fun t b hb => by
    obtain ⟨hmem, hb2⟩ := envOf_look hb
    cases hsrc : srcOf s t with
    | some j =>
      simp only [hsrc] at hb2
      obtain ⟨h1, h2, _⟩ := hsrcl t hmem j hsrc
      obtain ⟨r, h3, h4⟩ := inv.val j h1 h2
      rw [hb2] at h3
      cases h3
      exact ⟨vs j, by rw [look_mkEnv_mem hmem]; simp [g, hsrc], h4⟩
    | none =>
      simp only [hsrc] at hb2
      obtain ⟨u, h1, h2⟩ := h0.env t b hb2
      exact ⟨u, by rw [look_mkEnv_mem hmem]; simpa [g, hsrc] using h1, h2.mono inv.le⟩
  have hR : RSt C J L (envOf σ0 (cacc ++ accP) s (opTmps o)) H (mkEnv g (opTmps o)) := ⟨henv, inv.heap, inv.im0⟩
  have hput : ∀ j, j ≠ i → (listed.setIfInBounds i true).getD j false = listed.getD j false := fun j hj => getD_set_ne false (Ne.symm hj)
  have hdne : ∀ j, j < n → j ≠ i → ∀ d', (l.toArray[j]?).bind (·.dst) = some d' → o.dst ≠ some d' := by
    intro j hj hji d' hd' hod
    have hdi : (l.toArray[i]?).bind (·.dst) = some d' := by rw [ho]; exact hod
    rcases Nat.lt_or_gt_of_ne hji with h1 | h1
    · have := List.all_eq_true.1 (List.all_eq_true.1 hdst i (List.mem_range.2 hin)) j (List.mem_range.2 h1)
      rw [hdi, hd'] at this
      simp at this
    · have := List.all_eq_true.1 (List.all_eq_true.1 hdst j (List.mem_range.2 hj)) i (List.mem_range.2 h1)
      rw [hdi, hd'] at this
      simp at this
  -- what a finished operation does
  have fin : ∀ v J' L' H' k' cacc' w' r, Le J J' → St C J' L' w' → repH C.w0.heap.size J' H' L' → RepV J' r v → lookR (cacc' ++ accP) i = some r → (∀ j, j ≠ i → lookR (cacc' ++ accP) j = lookR (cacc ++ accP) j) → k' ≤ ci.length →
      (∀ m i', ci[m]? = some i' → ((listed.setIfInBounds i true).getD i' false = true ↔ m < k')) → planK P C N σ0 HT accP F (cl.drop k') cacc' H' → (∀ j r, lookR cacc' j = some r → j ∈ ci) → (∀ j r r0, lookR cacc' j = some r → lookR accP j = some r0 → r = r0) → (∀ j, j ∈ ci → (listed.setIfInBounds i true).getD j false = true → ∃ r, lookR cacc' j = some r) → K (a.put o.dst v) w' := by
    intro v J' L' H' k' cacc' w' r hle hst hH hv hri hrj hk' hch' hpl hkeys hprom hproL
    refine hK k' cacc' H' J' L' (fun j => if j = i then v else vs j) _ _ ⟨inv.head.set hr hin, inv.le.trans hle, inv.im0.trans hle, hst, hH, hk', hch', hpl, hkeys, hprom, hproL, fun j hj hl => ?_, ?_, ?_, fun j d' hj hl hd' => ?_, fun t u hu hno => ?_⟩
    · by_cases hji : j = i
      · subst hji
        exact ⟨r, hri, by simpa using hv⟩
      · rw [hput j hji] at hl
        obtain ⟨q, h1, h2⟩ := inv.val j hj hl
        exact ⟨q, (hrj j hji).trans h1, by simpa [hji] using h2.mono hle⟩
    · rw [put_defers]; exact inv.defers
    · rw [put_size]; exact inv.size
    · by_cases hji : j = i
      · subst hji
        have hod : o.dst = some d' := by rw [ho] at hd'; exact hd'
        rw [hod, put_eq _ _ (by rw [inv.size]; exact hdN d' hod), if_pos rfl]
      · rw [hput j hji] at hl
        rw [put_ne _ _ (hdne j hj hji d' hd'), if_neg hji]
        exact inv.tmpI j d' hj hl hd'
    · rw [put_ne _ _ (fun hod => hno i hin (getD_set_true' hilt) (by rw [ho]; exact hod))]
      refine inv.tmpO t u hu fun j hj hl => hno j hj ?_
      by_cases hji : j = i
      · subst hji; rw [hiun] at hl; cases hl
      · rw [hput j hji]; exact hl
  -- the guard
  have hgrd : ∀ gi want, o.guard = some (gi, want) → ∀ b, lookR accP gi = some (.v b) → yielded l.toArray a.tmps gi = some b := fun gi want hg b hb => by
    rw [hg] at hguard
    simp only [Bool.and_eq_true] at hguard
    have hgn : gi < n := by simpa [Nat.blt_eq] using hguard.1.1
    have hgl := hlisted gi hguard.1.2
    obtain ⟨r, h1, h2⟩ := inv.val gi hgn hgl
    have hr2 : r = .v b := by
      rw [lookR_append] at h1
      cases hc : lookR cacc gi with
      | some q =>
        rw [hc] at h1
        cases h1
        exact inv.prom gi _ _ hc hb
      | none =>
        rw [hc] at h1
        simp only at h1
        rw [hb] at h1
        exact (Option.some.inj h1).symm
    subst hr2
    obtain ⟨cs, rfl, hvs⟩ := h2
    obtain ⟨dg, hdg0⟩ := Option.isSome_iff_exists.1 hguard.2
    obtain ⟨og, hog, hdg⟩ := Option.bind_eq_some_iff.1 hdg0
    have htg := inv.tmpI gi dg hgn hgl (by rw [hog]; exact hdg)
    rw [hvs] at htg
    unfold yielded
    rw [hog]
    simp only [Option.bind_some, hdg, htg]
    rfl
  unfold wpOpIn
  simp only [ho]
  by_cases hic : i ∈ ci
  · obtain ⟨m, hm⟩ := List.mem_iff_getElem?.1 hic
    have hmk : ¬ m < k := fun h => by
      have := (inv.ch m i hm).2 h
      rw [hiun] at this; cases this
    have hml : m < ci.length := (List.getElem?_eq_some_iff.1 hm).1
    have hkm : m ≤ k := by
      cases m with
      | zero => omega
      | succ mj =>
        have h1 := List.all_eq_true.1 hch1 (mj + 1) (List.mem_range.2 hml)
        simp only [hm, Bool.and_eq_true] at h1
        cases hj : ci[mj]? with
        | none => simp [hj] at h1
        | some j =>
          simp only [hj, Bool.and_eq_true] at h1
          have := (inv.ch mj j hj).1 (hlisted j h1.2.2)
          omega
    have hmk' : m = k := by omega
    subst hmk'
    have hc := hcl m i o s hm hol hs
    have hdrop : cl.drop m = (i, o, s) :: cl.drop (m + 1) := by
      have hlt := (List.getElem?_eq_some_iff.1 hc).1
      rw [List.drop_eq_getElem_cons hlt]
      congr 1
      rw [List.getElem?_eq_getElem hlt] at hc
      exact Option.some.inj hc
    have hpl := inv.pl
    rw [hdrop, planK] at hpl
    replace hpl := hpl.2
    have hch' : ∀ mj i', ci[mj]? = some i' → ((listed.setIfInBounds i true).getD i' false = true ↔ mj < m + 1) := fun mj i' hm' => by
      by_cases e : i' = i
      · subst e
        have hlj := (List.getElem?_eq_some_iff.1 hm').1
        have heq : ci[mj]'hlj = ci[m]'hml := by rw [(List.getElem?_eq_some_iff.1 hm').2, (List.getElem?_eq_some_iff.1 hm).2]
        have : mj = m := by
          rcases Nat.lt_trichotomy mj m with h | h | h
          · exact absurd heq ((List.pairwise_iff_getElem.1 hnd) mj m hlj hml h)
          · exact h
          · exact absurd heq.symm ((List.pairwise_iff_getElem.1 hnd) m mj hml hlj h)
        exact ⟨fun _ => by omega, fun _ => getD_set_true' hilt⟩
      · rw [hput i' e, inv.ch mj i' hm']
        have : mj ≠ m := by
          rintro rfl
          rw [hm] at hm'; exact e (Option.some.inj hm').symm
        omega
    have hkeys : ∀ r, ∀ j q, lookR ((i, r) :: cacc) j = some q → j ∈ ci := fun r j q hq => by
      rw [lookR_cons] at hq
      by_cases e : i = j
      · subst e; exact hic
      · rw [if_neg e] at hq; exact inv.keys j q hq
    have hself : ∀ r, lookR ((i, r) :: cacc ++ accP) i = some r := fun r => by rw [List.cons_append, lookR_cons, if_pos rfl]
    have hoth : ∀ r j, j ≠ i → lookR ((i, r) :: cacc ++ accP) j = lookR (cacc ++ accP) j := fun r j hj => by rw [List.cons_append, lookR_cons, if_neg (Ne.symm hj)]
    have hprom : ∀ r, (∀ r0, lookR accP i = some r0 → r = r0) → ∀ j q r0, lookR ((i, r) :: cacc) j = some q → lookR accP j = some r0 → q = r0 := fun r hr0 j q r0 hq h0 => by
      rw [lookR_cons] at hq
      by_cases e : i = j
      · subst e; rw [if_pos rfl] at hq; cases hq; exact hr0 r0 h0
      · rw [if_neg e] at hq; exact inv.prom j q r0 hq h0
    have hproL : ∀ r, ∀ j, j ∈ ci → (listed.setIfInBounds i true).getD j false = true → ∃ q, lookR ((i, r) :: cacc) j = some q := fun r j hj hl => by
      by_cases e : i = j
      · subst e; exact ⟨r, by rw [lookR_cons, if_pos rfl]⟩
      · rw [hput j (Ne.symm e)] at hl
        obtain ⟨q, hq⟩ := inv.proL j hj hl
        exact ⟨q, by rw [lookR_cons, if_neg e]; exact hq⟩
    have run : ∀ (R : AV → AV), (∀ r r0, lookR accP i = some r0 → R r = r0) → ∀ Z : AV → Prop, (∀ r, Z r → ∀ J' u, RepV J' r u → RepV J' (R r) u) →
        OpH P C N o (envOf σ0 (cacc ++ accP) s (opTmps o)) H (fun r H' => Z r ∧ planK P C N σ0 HT accP F (cl.drop (m + 1)) ((i, R r) :: cacc) H') → o.wpIn C.fen 0 P a w K Q' := fun R hR0 Z hZ h => by
      refine Yld.wp ((h _ J L hR a w hfits inv.st).mono ?_)
      rintro v w' ⟨J', L', hst, hle, r, H', h1, h2, h3, h4⟩
      exact fin v J' L' H' (m + 1) ((i, R r) :: cacc) w' (R r) hle hst h2 (hZ r h3 _ _ h1) (hself _) (hoth _) (by omega) hch' h4 (hkeys _) (hprom _ (hR0 r)) (hproL _)
    have skipd : ∀ b want r, o.guard.isSome = true → (∀ r0, lookR accP i = some r0 → r = r0) → RepV J r undef → planK P C N σ0 HT accP F (cl.drop (m + 1)) ((i, r) :: cacc) H → (b : Bool) = !want → K (a.put o.dst undef) w := fun b want r _ hr0 hu hp _ =>
      fin undef J L H (m + 1) ((i, r) :: cacc) w r (Le.refl J) inv.st inv.heap hu (hself r) (hoth r) (by omega) hch' hp (hkeys r) (hprom r hr0) (hproL r)
    cases hg : o.guard with
    | none =>
      rw [if_pos (by simp [Region.wanted, hg])]
      cases hpr : lookR accP i with
      | none =>
        rw [hg, hpr] at hpl
        exact run (fun r => r) (fun r r0 h => by rw [hpr] at h; cases h) (fun _ => True) (fun _ _ _ _ h => h) (by
          intro ρ' I' L' hs' a' w' ha' hst'
          exact Yld.mono (hpl ρ' I' L' hs' a' w' ha' hst') (fun v w'' ⟨J', L'', q1, q2, r, H', q3, q4, q5⟩ => ⟨J', L'', q1, q2, r, H', q3, q4, trivial, q5⟩))
      | some r0 =>
        rw [hg, hpr] at hpl
        exact run (fun _ => r0) (fun r q h => by rw [hpr] at h; exact Option.some.inj h) (fun r => r = r0) (fun r hr _ _ h => hr ▸ h) hpl
    | some gw =>
      obtain ⟨gi, want⟩ := gw
      cases hpr : lookR accP i with
      | none =>
        rw [hg, hpr] at hpl
        obtain ⟨b, hb, h1, h2⟩ := hpl
        have hy := hgrd gi want hg b hb
        by_cases hbw : b = want
        · rw [if_pos (by simp [Region.wanted, hg, hy, hbw])]
          exact run (fun r => r) (fun r r0 h => by rw [hpr] at h; cases h) (fun _ => True) (fun _ _ _ _ h => h) (by
            intro ρ' I' L' hs' a' w' ha' hst'
            exact Yld.mono (h1 hbw ρ' I' L' hs' a' w' ha' hst') (fun v w'' ⟨J', L'', q1, q2, r, H', q3, q4, q5⟩ => ⟨J', L'', q1, q2, r, H', q3, q4, trivial, q5⟩))
        · have hwf : ¬ Region.wanted o (yielded l.toArray a.tmps) = true := by simpa [Region.wanted, hg, hy] using hbw
          rw [if_neg hwf]
          refine ⟨fun _ _ => trivial, ?_⟩
          have hbn : b = !want := ne_not hbw
          exact skipd b want .any (by simp [hg]) (fun r0 h => by rw [hpr] at h; cases h) trivial (h2 hbn) hbn
      | some r0 =>
        rw [hg, hpr] at hpl
        obtain ⟨b, c, hb, rfl, h1, h2⟩ := hpl
        have hy := hgrd gi want hg b hb
        by_cases hbw : b = want
        · rw [if_pos (by simp [Region.wanted, hg, hy, hbw])]
          exact run (fun _ => .opt (b == want) c) (fun r q h => by rw [hpr] at h; exact Option.some.inj h) (fun r => r = c) (fun r hr J' u h _ => hr ▸ h) (h1 hbw)
        · have hwf : ¬ Region.wanted o (yielded l.toArray a.tmps) = true := by simpa [Region.wanted, hg, hy] using hbw
          rw [if_neg hwf]
          refine ⟨fun _ _ => trivial, ?_⟩
          have hbn : b = !want := ne_not hbw
          exact skipd b want (.opt (b == want) c) (by simp [hg]) (fun q h => by rw [hpr] at h; exact Option.some.inj h) (fun hc => absurd (by simpa using hc) hbw) (h2 hbn) hbn
  · obtain ⟨r, hri, hd⟩ := hp i o s hin hic hol hs
    have hcn : ∀ j, j ∉ ci → lookR cacc j = none := fun j hj => by
      cases hc : lookR cacc j with
      | none => rfl
      | some q => exact absurd (inv.keys j q hc) hj
    have hself : lookR (cacc ++ accP) i = some r := by rw [lookR_append, hcn i hic]; exact hri
    have hRq : RSt C J L (envOf σ0 accP s (opTmps o)) H (mkEnv g (opTmps o)) := hR.sub fun t b hb => by
      obtain ⟨hmem, hb2⟩ := envOf_look hb
      refine envOf_get ?_ hmem
      cases hsrc : srcOf s t with
      | none => simp only [hsrc] at hb2 ⊢; exact hb2
      | some j =>
        simp only [hsrc] at hb2 ⊢
        rw [lookR_append]
        cases hc : lookR cacc j with
        | none => exact hb2
        | some q => exact congrArg some (inv.prom j q b hc hb2)
    have hproL : ∀ j, j ∈ ci → (listed.setIfInBounds i true).getD j false = true → ∃ q, lookR cacc j = some q := fun j hj hl => by
      have : j ≠ i := by rintro rfl; exact hic hj
      rw [hput j this] at hl; exact inv.proL j hj hl
    have hch' : ∀ mj i', ci[mj]? = some i' → ((listed.setIfInBounds i true).getD i' false = true ↔ mj < k) := fun mj i' hm' => by
      have : i' ≠ i := by rintro rfl; exact hic (List.mem_of_getElem? hm')
      rw [hput i' this]; exact inv.ch mj i' hm'
    obtain ⟨Hp, hHp⟩ := inv.pl.tail
    have hdH := hd Hp
    rw [← hHp] at hdH
    unfold dutyA at hdH
    have run : ∀ (c : AV), OpP P N C o (envOf σ0 accP s (opTmps o)) H (fun r' => r' = c) → (∀ J' u, RepV J' c u → RepV J' r u) → o.wpIn C.fen 0 P a w K Q' := fun c h hcr => by
      refine Yld.wp ((h _ J L hRq a w hfits inv.st.mem).mono ?_)
      rintro v w' ⟨J', X, hc, hle, hn, hm, hX, rfl, r', h1, rfl⟩
      have hst := (inv.st.step hc hle hn hm hX)
      rw [List.nil_append] at hst
      exact fin v J' L H k cacc w' r hle hst (inv.heap.mono hle) (hcr _ _ h1) hself (fun j hj => rfl) inv.kle hch' inv.pl inv.keys inv.prom hproL
    cases hg : o.guard with
    | none =>
      rw [hg] at hdH
      rw [if_pos (by simp [Region.wanted, hg])]
      exact run r hdH (fun _ _ h => h)
    | some gw =>
      obtain ⟨gi, want⟩ := gw
      rw [hg] at hdH
      obtain ⟨b, c, hb, rfl, h2⟩ := hdH
      have hy := hgrd gi want hg b hb
      by_cases hbw : b = want
      · rw [if_pos (by simp [Region.wanted, hg, hy, hbw])]
        exact run c (h2 hbw) (fun _ _ h _ => h)
      · have hwf : ¬ Region.wanted o (yielded l.toArray a.tmps) = true := by simpa [Region.wanted, hg, hy] using hbw
        rw [if_neg hwf]
        refine ⟨fun _ _ => trivial, ?_⟩
        exact fin undef J L H k cacc w (.opt (b == want) c) (Le.refl J) inv.st inv.heap (fun hc => absurd (by simpa using hc) hbw) hself (fun j hj => rfl) inv.kle hch' inv.pl inv.keys inv.prom hproL
theorem wpAny_C {Q' : Exit → Act → World → Prop} (h0 : RSt C I L0 σ0 H0 ρ0) (hN : dstOk N l = true) (hback : edgesBack l.toArray = true) (hok : ∀ i, i < n → opOkC l.toArray n ss i = true) (hdst : dstsOkC l.toArray n = true) (hch : chainOk l.toArray n ss ci = true)
    (hcl : ∀ (m i : Nat) (o : Oper) (s : List (Nat × Nat)), ci[m]? = some i → l[i]? = some o → ss[i]? = some s → cl[m]? = some (i, o, s)) (hnd : ci.Nodup)
    (hp : ∀ i o s, i < n → i ∉ ci → l[i]? = some o → ss[i]? = some s → ∃ r, lookR accP i = some r ∧ dutyQ P N C σ0 HT accP o s r)
    (hle : n ≤ l.length) (htail : n = l.length ∨ (Region.sinkB .any l.toArray n = true ∧ Region.chainB .any l.toArray n = true)) (hseq : Region.seqB .any l.toArray (l.length - n) n (headAll l.length n) = true)
    (hfin : ∀ listed k cacc H J L vs a w, CInv P C N n l ci cl σ0 HT accP F ρ0 I listed k cacc H J L vs a w → (∀ j, j < n → listed.getD j false = true) → wpListIn C.fen 0 P l.toArray Q' (l.drop n) a w) :
    ∀ (m : Nat) (listed : Array Bool) k cacc H J L vs a w, CInv P C N n l ci cl σ0 HT accP F ρ0 I listed k cacc H J L vs a w → unl listed n = m → wpAnyIn C.fen 0 P .any l.toArray Q' (m + (l.length - n)) listed a w
  | 0, listed, k, cacc, H, J, L, vs, a, w, inv, hm => by
    have hsz : listed.size = l.length := by simpa using inv.head.size
    have hall : ∀ j, j < n → listed.getD j false = true := fun j hj => getD_both' (by omega) (unl_zero hm j hj)
    have heq : listed = headAll l.length n := by
      refine Array.ext (by simp [headAll, hsz]) fun j h1 h2 => ?_
      have e1 : (headAll l.length n)[j]'h2 = Nat.blt j n := by simp [headAll]
      rw [e1]
      by_cases hj : j < n
      · have := hall j hj
        simp [h1] at this
        rw [this]
        exact (Nat.blt_eq ▸ hj : Nat.blt j n = true).symm
      · have := inv.head.tail j (by omega) (by simp; omega)
        simp [h1] at this
        rw [this]
        cases hb : Nat.blt j n
        · rfl
        · exact absurd (Nat.blt_eq ▸ hb : j < n) hj
    have hw := hfin listed k cacc H J L vs a w inv hall
    have h2 := wpAnyIn_of_seq (md := .any) (Q' := Q') (l.drop n) n listed a w (fun j => by simp [List.getElem?_drop]) (by rw [heq]; simpa using hseq) hw
    simpa using h2
  | m + 1, listed, k, cacc, H, J, L, vs, a, w, inv, hm => by
    have hsz : listed.size = l.length := by simpa using inv.head.size
    obtain ⟨i, hin, hi, hlt⟩ := unl_pos hm
    have hr := ready_of_least hback (by simpa using inv.head.size) hi hlt
    rw [show m + 1 + (l.length - n) = (m + (l.length - n)) + 1 by omega]
    refine ⟨fun h0 => (by rw [h0] at hr; cases hr), fun j hj => ?_⟩
    have hjn : j < n := by
      rcases Nat.lt_or_ge j n with h | h
      · exact h
      · rcases htail with ht | ⟨hs, hc⟩
        · obtain ⟨_, o, ho, _⟩ := mem_ready.1 hj
          have := (Array.getElem?_eq_some_iff.1 ho).1
          simp at this
          omega
        · have hnl : n < l.toArray.size := by
            obtain ⟨_, o, ho, _⟩ := mem_ready.1 hj
            have := (Array.getElem?_eq_some_iff.1 ho).1
            omega
          exact absurd hj (tail_waits hs hc hnl inv.head _ i rfl hin hi j h)
    refine inv.step h0 hN hok hdst hch hcl hnd hp hj hjn fun k' cacc' H' J' L' vs' a' w' inv' => ?_
    refine wpAny_C h0 hN hback hok hdst hch hcl hnd hp hle htail hseq hfin m _ k' cacc' H' J' L' vs' a' w' inv' ?_
    have hu := (mem_ready.1 hj).1
    have := unl_set hu hjn
    omega
end
def chainP (P : Program) (N : Nat) (C : Ctx) (σ0 : AEnv) {ι : Type 1} (HT : ι → AHeap) (ci : List Nat) (F : List (Nat × AV) → Prop) : List Oper → List (List (Nat × Nat)) → Nat → List (Nat × AV) → Prop
  | [], _, _, acc => F acc
  | o :: os, s :: ss, k, acc => bif ci.contains k then chainP P N C σ0 HT ci F os ss (k + 1) acc ∨ ∃ r, chainP P N C σ0 HT ci F os ss (k + 1) ((k, r) :: acc) else ∃ r, dutyQ P N C σ0 HT acc o s r ∧ chainP P N C σ0 HT ci F os ss (k + 1) ((k, r) :: acc)
  | _, [], _, _ => False
def clOf (l : List Oper) (ss : List (List (Nat × Nat))) : List Nat → List (Nat × Oper × List (Nat × Nat))
  | [] => []
  | i :: r => match l[i]?, ss[i]? with
    | some o, some s => (i, o, s) :: clOf l ss r
    | _, _ => clOf l ss r
theorem clOf_get {l : List Oper} {ss : List (List (Nat × Nat))} : ∀ (ci : List Nat), (∀ i ∈ ci, ∃ o s, l[i]? = some o ∧ ss[i]? = some s) → ∀ (m i : Nat) (o : Oper) (s : List (Nat × Nat)), ci[m]? = some i → l[i]? = some o → ss[i]? = some s → (clOf l ss ci)[m]? = some (i, o, s)
  | [], _, m, i, o, s, h, _, _ => by simp at h
  | j :: r, h0, m, i, o, s, h, h1, h2 => by
    obtain ⟨o', s', h3, h4⟩ := h0 j List.mem_cons_self
    simp only [clOf, h3, h4]
    cases m with
    | zero =>
      simp only [List.getElem?_cons_zero, Option.some.injEq] at h ⊢
      subst h
      rw [h1] at h3; rw [h2] at h4
      cases h3; cases h4; rfl
    | succ m => simpa using clOf_get r (fun i hi => h0 i (List.mem_cons_of_mem _ hi)) m i o s (by simpa using h) h1 h2
theorem chainP_elim {P : Program} {N : Nat} {C : Ctx} {σ0 : AEnv} {ι : Type 1} {HT : ι → AHeap} {ci : List Nat} {F : List (Nat × AV) → Prop} : ∀ (os : List Oper) (ss : List (List (Nat × Nat))) (k : Nat) (acc : List (Nat × AV)), (∀ j r, lookR acc j = some r → j < k) → chainP P N C σ0 HT ci F os ss k acc →
    ∃ full, F full ∧ (∀ j, j < k → lookR full j = lookR acc j) ∧
      ∀ i o s, os[i]? = some o → ss[i]? = some s → k + i ∉ ci → ∃ r acc', lookR full (k + i) = some r ∧ dutyQ P N C σ0 HT acc' o s r ∧ ∀ j, j < k + i → lookR acc' j = lookR full j
  | [], ss, k, acc, hacc, h => ⟨acc, by cases ss <;> exact h, fun _ _ => rfl, fun i o s ho => by simp at ho⟩
  | o :: os, [], k, acc, _, h => h.elim
  | o :: os, s :: ss, k, acc, hacc, h => by
    simp only [chainP] at h
    have hacc2 : ∀ r, ∀ j q, lookR ((k, r) :: acc) j = some q → j < k + 1 := fun r j q hj => by
      rw [lookR_cons] at hj
      by_cases e : k = j
      · omega
      · rw [if_neg e] at hj; have := hacc j q hj; omega
    cases hc : ci.contains k with
    | true =>
      rw [hc] at h
      simp only [cond_true] at h
      have fin : ∀ acc2, (∀ j, j < k → lookR acc2 j = lookR acc j) → (∀ j r, lookR acc2 j = some r → j < k + 1) → chainP P N C σ0 HT ci F os ss (k + 1) acc2 → ∃ full, F full ∧ (∀ j, j < k → lookR full j = lookR acc j) ∧
          ∀ i o' s', (o :: os)[i]? = some o' → (s :: ss)[i]? = some s' → k + i ∉ ci → ∃ r acc', lookR full (k + i) = some r ∧ dutyQ P N C σ0 HT acc' o' s' r ∧ ∀ j, j < k + i → lookR acc' j = lookR full j := fun acc2 ha hb h => by
        obtain ⟨full, hF, h1, h3⟩ := chainP_elim os ss (k + 1) acc2 hb h
        refine ⟨full, hF, fun j hj => (h1 j (by omega)).trans (ha j hj), fun i o' s' ho hs hni => ?_⟩
        cases i with
        | zero => exact absurd (by simpa using hc) hni
        | succ i =>
          have e : k + (i + 1) = k + 1 + i := by omega
          rw [e]
          exact h3 i o' s' (by simpa using ho) (by simpa using hs) (by rw [← e]; exact hni)
      rcases h with h | ⟨r, h⟩
      · exact fin acc (fun _ _ => rfl) (fun j r hj => Nat.lt_succ_of_lt (hacc j r hj)) h
      · exact fin ((k, r) :: acc) (fun j hj => by rw [lookR_cons, if_neg (by omega)]) (hacc2 r) h
    | false =>
      rw [hc] at h
      simp only [cond_false] at h
      obtain ⟨r, hd, h⟩ := h
      obtain ⟨full, hF, h1, h3⟩ := chainP_elim os ss (k + 1) ((k, r) :: acc) (hacc2 r) h
      refine ⟨full, hF, fun j hj => by rw [h1 j (by omega), lookR_cons, if_neg (by omega)], fun i o' s' ho hs hni => ?_⟩
      cases i with
      | zero =>
        simp only [List.getElem?_cons_zero, Option.some.injEq] at ho hs
        subst ho; subst hs
        refine ⟨r, acc, by rw [Nat.add_zero, h1 k (by omega), lookR_cons, if_pos rfl], hd, fun j hj => ?_⟩
        rw [Nat.add_zero] at hj
        rw [h1 j (by omega), lookR_cons, if_neg (by omega)]
      | succ i =>
        have e : k + (i + 1) = k + 1 + i := by omega
        rw [e]
        exact h3 i o' s' (by simpa using ho) (by simpa using hs) (by rw [← e]; exact hni)
def finV (vs : Nat → Value) : List Oper → Nat → Env → Env
  | o :: os, k, ρ => match o.dst with
    | some d => finV vs os (k + 1) ((d, vs k) :: ρ)
    | none => finV vs os (k + 1) ρ
  | [], _, ρ => ρ
theorem finV_st {C : Ctx} {J : Im} {L : Lh} {H : AHeap} {acc : List (Nat × AV)} {vs : Nat → Value} : ∀ (os : List Oper) (k : Nat) (σ : AEnv) (ρ : Env), RSt C J L σ H ρ → (∀ i o, os[i]? = some o → ∃ r, lookR acc (k + i) = some r ∧ RepV J r (vs (k + i))) →
    RSt C J L (finA acc os k σ) H (finV vs os k ρ)
  | [], k, σ, ρ, hs, _ => hs
  | o :: os, k, σ, ρ, hs, hd => by
    obtain ⟨r, h1, h2⟩ := hd 0 o rfl
    simp only [Nat.add_zero] at h1 h2
    have hd' : ∀ i o', os[i]? = some o' → ∃ r, lookR acc (k + 1 + i) = some r ∧ RepV J r (vs (k + 1 + i)) := fun i o' ho => by
      have := hd (i + 1) o' (by simpa using ho)
      rwa [show k + (i + 1) = k + 1 + i by omega] at this
    cases ho : o.dst with
    | none => simp only [finA, finV, ho]; exact finV_st os (k + 1) σ ρ hs hd'
    | some d => simp only [finA, finV, ho, h1]; exact finV_st os (k + 1) _ _ (hs.put (Le.refl J) h2 hs.heap) hd'
theorem finV_fits {N : Nat} {vs : Nat → Value} {a : Act} (hd : a.defers = []) (hsz : a.tmps.size = N) : ∀ (os : List Oper) (k : Nat) (ρ : Env),
    (∀ (i : Nat) (o : Oper) (d : Nat), os[i]? = some o → o.dst = some d → a.tmps[d]? = some (vs (k + i))) → (∀ t v, Fl.look ρ t = some v → (∀ (i : Nat) (o : Oper), os[i]? = some o → o.dst ≠ some t) → a.tmps[t]? = some v) → Fits N (finV vs os k ρ) a
  | [], k, ρ, _, h => ⟨hd, hsz, fun t v hv => h t v hv (fun i o ho => by simp at ho)⟩
  | o :: os, k, ρ, hI, hO => by
    have hI' : ∀ (i : Nat) (o' : Oper) (d : Nat), os[i]? = some o' → o'.dst = some d → a.tmps[d]? = some (vs (k + 1 + i)) := fun i o' d ho hdd => by
      have := hI (i + 1) o' d (by simpa using ho) hdd
      rwa [show k + (i + 1) = k + 1 + i by omega] at this
    cases ho : o.dst with
    | none =>
      simp only [finV, ho]
      refine finV_fits hd hsz os (k + 1) ρ hI' fun t v hv hno => hO t v hv fun i o' ho' => ?_
      cases i with
      | zero => simp only [List.getElem?_cons_zero, Option.some.injEq] at ho'; subst ho'; rw [ho]; exact fun h => by cases h
      | succ i => exact hno i o' (by simpa using ho')
    | some d =>
      simp only [finV, ho]
      refine finV_fits hd hsz os (k + 1) _ hI' fun t v hv hno => ?_
      rw [Fl.look_cons] at hv
      by_cases e : d = t
      · subst e
        rw [if_pos rfl] at hv
        cases hv
        have := hI 0 o d rfl ho
        simpa using this
      · rw [if_neg e] at hv
        refine hO t v hv fun i o' ho' => ?_
        cases i with
        | zero =>
          simp only [List.getElem?_cons_zero, Option.some.injEq] at ho'
          subst ho'
          rw [ho]
          exact fun h => e (Option.some.inj h)
        | succ i => exact hno i o' (by simpa using ho')
theorem wpA.drawCK {P : Program} {C : Ctx} {N : Nat} {Q : Exit → AEnv → AHeap → Prop} {σ : AEnv} {H : AHeap} {id : Nat} {l : List Oper} {ι : Type 1} (HT : ι → AHeap) (hm : P.follows .mixedOrders = true) (n : Nat) (ss : List (List (Nat × Nat))) (ci : List Nat)
    (hN : dstOk N l = true) (hB : phiOkC l.toArray n ss = true) (hss : Nat.ble n ss.length = true) (hC : chainOk l.toArray n ss ci = true) (hnd : ci.Nodup)
    (h : chainP P N C σ HT ci (fun accP => planK P C N σ HT accP (fun cacc H' => wpB P C N l.toArray Q (l.drop n) (finA (cacc ++ accP) (l.take n) 0 σ) H') (clOf l ss ci) [] H) (l.take n) ss 0 []) :
    wpA P C N (.region id l.toArray true) Q σ H := fun ρ I L hs a w ha hst => by
  have hB0 := hB
  simp only [phiOkC, Bool.and_eq_true, Bool.or_eq_true] at hB
  obtain ⟨⟨⟨⟨⟨hle, hback⟩, hok⟩, hdst⟩, htail⟩, hseq⟩ := hB
  have hle' : n ≤ l.length := by simpa using Nat.le_of_ble_eq_true hle
  have hok' : ∀ i, i < n → opOkC l.toArray n ss i = true := fun i hi => List.all_eq_true.1 hok i (List.mem_range.2 hi)
  have hssl := Nat.le_of_ble_eq_true hss
  obtain ⟨full, hF, _, hd⟩ := chainP_elim (l.take n) ss 0 [] (fun j r hj => by simp [lookR] at hj) h
  have hC' := hC
  unfold chainOk at hC'
  have hcin : ∀ i ∈ ci, i < n := fun i hi => by
    obtain ⟨m, hm⟩ := List.mem_iff_getElem?.1 hi
    have h1 := List.all_eq_true.1 hC' m (List.mem_range.2 (List.getElem?_eq_some_iff.1 hm).1)
    simp only [hm, Bool.and_eq_true] at h1
    simpa [Nat.blt_eq] using h1.1
  have hcl := clOf_get (l := l) (ss := ss) ci (fun i hi => ⟨_, _, List.getElem?_eq_getElem (Nat.lt_of_lt_of_le (hcin i hi) hle'), List.getElem?_eq_getElem (Nat.lt_of_lt_of_le (hcin i hi) hssl)⟩)
  have hp : ∀ i o s, i < n → i ∉ ci → l[i]? = some o → ss[i]? = some s → ∃ r, lookR full i = some r ∧ dutyQ P N C σ HT full o s r := fun i o s hi hic ho hsi => by
    obtain ⟨r, acc', h1, h2, h3⟩ := hd i o s (by rw [List.getElem?_take, if_pos hi]; exact ho) hsi (by simpa using hic)
    rw [Nat.zero_add] at h1 h3
    refine ⟨r, h1, fun H' => ?_⟩
    have hoi := hok' i hi
    unfold opOkC at hoi
    have ho' : l.toArray[i]? = some o := by simpa using ho
    simp only [ho', hsi, Bool.and_eq_true] at hoi
    have hback' : ∀ j, Region.waitsFor .any l.toArray i j = true → j < i := fun j hw => by
      obtain ⟨e, he, hb, heq⟩ := waits_mem ho' hw
      have hil : i < l.toArray.size := (Array.getElem?_eq_some_iff.1 ho').1
      have h4 := List.all_eq_true.1 hback i (List.mem_range.2 hil)
      simp only [ho', Array.all_eq_true_iff_forall_mem] at h4
      have h5 := h4 e he
      rw [hb] at h5
      have : e.on < i := by simpa [Nat.blt_eq] using h5
      omega
    -- sources that are no operand are looked at too
    have henv : ∀ t ∈ opTmps o, ∀ j, srcOf s t = some j → lookR acc' j = lookR full j := fun t ht j hj => by
      have h6 := List.all_eq_true.1 hoi.1 t ht
      unfold readOk at h6
      simp only [hj, Bool.and_eq_true] at h6
      exact h3 j (hback' j h6.2)
    have hdd := h2 H'
    unfold dutyA at hdd ⊢
    have he : ∀ ts, (∀ t ∈ ts, t ∈ opTmps o) → envOf σ acc' s ts = envOf σ full s ts := by
      intro ts
      induction ts with
      | nil => intro _; rfl
      | cons t ts ih =>
        intro hts
        simp only [envOf]
        cases hsrc : srcOf s t with
        | none => simp only [ih (fun u hu => hts u (List.mem_cons_of_mem _ hu))]
        | some j => simp only [henv t (hts t List.mem_cons_self) j hsrc, ih (fun u hu => hts u (List.mem_cons_of_mem _ hu))]
    rw [← he _ (fun t ht => ht)]
    cases hg : o.guard with
    | none => rw [hg] at hdd; exact hdd
    | some p =>
      obtain ⟨g, want⟩ := p
      rw [hg] at hdd
      have h6 := hoi.2
      rw [hg] at h6
      simp only [Bool.and_eq_true] at h6
      simp only at hdd ⊢
      rw [← h3 g (hback' g h6.1.2)]; exact hdd
  have hs' : St C I L { w with drawn := w.drawn + 1 } := ⟨⟨hst.mem.im, hst.mem.loc, hst.mem.sep, hst.mem.nodup⟩, ⟨hst.chg.os, hst.chg.tape, hst.chg.output, hst.chg.size, hst.chg.block⟩, hst.own, hst.im0, hst.new⟩
  refine wpIn_region_any hm ?_
  have inv0 : CInv P C N n l ci (clOf l ss ci) σ HT full (fun cacc H' => wpB P C N l.toArray Q (l.drop n) (finA (cacc ++ full) (l.take n) 0 σ) H') ρ I (Array.replicate l.toArray.size false) 0 [] H I L (fun _ => undef) a { w with drawn := w.drawn + 1 } := by
    have hnl : ∀ j, (Array.replicate l.toArray.size false).getD j false = true → False := fun j hl => by rw [getD_replicate_false] at hl; cases hl
    refine ⟨⟨by simp, fun j oj _ hl => (hnl j hl).elim, fun t _ ht => getD_in (by simpa using ht) (getD_replicate_false _ _)⟩, Le.refl _, hs.im0, hs', hs.heap, Nat.zero_le _, fun m i hm => ⟨fun hl => (hnl i hl).elim, fun h => by omega⟩, by rw [List.drop_zero]; exact hF, fun j r hj => by simp [lookR] at hj, fun j r r0 hj => by simp [lookR] at hj, fun j _ hl => (hnl j hl).elim, fun j _ hl => (hnl j hl).elim, ha.defers, ha.size, fun j d _ hl => (hnl j hl).elim, fun t v hv _ => ha.tmp t v hv⟩
  have hunl : unl (Array.replicate l.toArray.size false) n = n := by
    have key : ∀ k, k ≤ l.toArray.size → unl (Array.replicate l.toArray.size false) k = k := by
      intro k
      induction k with
      | zero => intro _; rfl
      | succ k ih =>
        intro hk
        rw [unl, ih (by omega), if_pos (getD_in (by simp at hk ⊢; omega) (getD_replicate_false _ _))]
    exact key n (by simpa using hle')
  have hmain := wpAny_C (Q' := liftQ C N (qA C Q)) hs hN hback hok' hdst hC hcl hnd hp hle'
    (by rcases htail with h | h
        · exact .inl (by simpa using h)
        · exact .inr h) (by simpa using hseq)
    (fun listed k cacc H' J L' vs a' w' inv hall => by
      have hk : k = ci.length := by
        rcases Nat.lt_or_ge k ci.length with h | h
        · have := (inv.ch k _ (List.getElem?_eq_getElem h)).1 (hall _ (hcin _ (List.getElem_mem h)))
          omega
        · have := inv.kle; omega
      have hpl := inv.pl
      have hlen : (clOf l ss ci).length ≤ ci.length := by
        have : ∀ c : List Nat, (clOf l ss c).length ≤ c.length := by
          intro c
          induction c with
          | nil => exact Nat.le_refl _
          | cons i c ih =>
            simp only [clOf]
            split
            · simpa using ih
            · exact Nat.le_succ_of_le ih
        exact this ci
      rw [hk, List.drop_eq_nil_of_le hlen, planK] at hpl
      replace hpl := hpl.2
      have hNd : dstOk N (l.drop n) = true := by
        simp only [dstOk, List.all_eq_true] at hN ⊢
        exact fun o ho => hN o (List.mem_of_mem_drop ho)
      have hR : RSt C J L' σ H' ρ := ⟨fun t b hb => by obtain ⟨u, h1, h2⟩ := hs.env t b hb; exact ⟨u, h1, h2.mono inv.le⟩, inv.heap, inv.im0⟩
      have hget : ∀ i o, (l.take n)[i]? = some o → i < n ∧ l[i]? = some o := fun i o ho => by
        have h1 := (List.getElem?_eq_some_iff.1 ho).1
        have hin : i < n := by rw [List.length_take] at h1; omega
        rw [List.getElem?_take, if_pos hin] at ho
        exact ⟨hin, ho⟩
      refine hpl (finV vs (l.take n) 0 ρ) J L' (finV_st (l.take n) 0 σ ρ hR fun i o ho => ?_) hNd a' w' (finV_fits inv.defers inv.size (l.take n) 0 ρ (fun i o d ho hdd => ?_) fun t v hv hno => inv.tmpO t v hv fun j hj _ hdj => ?_) inv.st
      · obtain ⟨hin, _⟩ := hget i o ho
        rw [Nat.zero_add]
        exact inv.val i hin (hall i hin)
      · obtain ⟨hin, ho2⟩ := hget i o ho
        rw [Nat.zero_add]
        exact inv.tmpI i d hin (hall i hin) (by simp [ho2, hdd])
      · have hjl : j < l.length := by omega
        have : (l.take n)[j]? = some l[j] := by rw [List.getElem?_take, if_pos hj]; exact List.getElem?_eq_getElem hjl
        refine hno j l[j] this ?_
        simpa [hjl] using hdj)
    n _ _ _ _ _ _ _ _ _ inv0 hunl
  rw [show n + (l.length - n) = l.toArray.size by simp; omega] at hmain
  exact hmain
theorem Hole.app {Hp : AHeap} {H : AHeap} {B : Bool × Blk} {F : Bool × Blk → AHeap} (h : Hole H B F) : Hole (Hp ++ H) B (fun X => Hp ++ F X) := by
  induction Hp with
  | nil => exact h
  | cons A Hp ih => exact .s ih
def famT : List Bool → AHeap → (Nat → Bool × Blk) → Nat → AHeap
  | b :: bs, B :: H, q, k => (bif b then q k else B) :: famT bs H q (k + 1)
  | _, H, _, _ => H
theorem wpA.drawCF {P : Program} {C : Ctx} {N : Nat} {Q : Exit → AEnv → AHeap → Prop} {σ : AEnv} {H : AHeap} {id : Nat} {l : List Oper} (bs : List Bool) (hm : P.follows .mixedOrders = true) (n : Nat) (ss : List (List (Nat × Nat))) (ci : List Nat)
    (hN : dstOk N l = true) (hB : phiOkC l.toArray n ss = true) (hss : Nat.ble n ss.length = true) (hC : chainOk l.toArray n ss ci = true) (hnd : ci.Nodup)
    (h : chainP P N C σ (fun q : AHeap × (Nat → Bool × Blk) => q.1 ++ famT bs H q.2 0) ci (fun accP => planK P C N σ (fun q : AHeap × (Nat → Bool × Blk) => q.1 ++ famT bs H q.2 0) accP (fun cacc H' => wpB P C N l.toArray Q (l.drop n) (finA (cacc ++ accP) (l.take n) 0 σ) H') (clOf l ss ci) [] H) (l.take n) ss 0 []) :
    wpA P C N (.region id l.toArray true) Q σ H := .drawCK _ hm n ss ci hN hB hss hC hnd h
end Go.Ab
set_option linter.unusedVariables false
namespace Go.Ab
open Go.Fl Go.RowKit
open Rep (rep)
variable {P : Program} {C : Ctx} {N : Nat} {σ : AEnv} {H : AHeap} {K : AV → Prop} {KH : AV → AHeap → Prop} {d : Option Nat} {ty : TypeId} {ps : String} {af : Array Edge} {g : Option (Nat × Bool)}
variable {x y z : Operand} {T T2 E S D U : TypeId} {o : Oper}
theorem OpH.ofP (h : OpP P N C o σ H (fun r => KH r H)) : OpH P C N o σ H KH := fun ρ I L hs =>
  OpS.ofX (OpX.monoLe (h ρ I L hs) fun v J X hle ⟨hX, r, h1, h2⟩ => by subst hX; exact ⟨hle, r, H, h1, hs.heap.mono hle, h2⟩)
theorem wpB.drop {ops : Array Oper} {Q : Exit → AEnv → AHeap → Prop} {os : List Oper} {B : Bool × Blk} (k : wpB P C N ops Q os σ H) : wpB P C N ops Q os σ (B :: H) := fun ρ I L hs => by
  obtain ⟨X, R, rfl, h1, h2⟩ := hs.heap
  exact wpL.forget (X := [X]) (k ρ I R ⟨hs.env, h2, hs.im0⟩)
theorem wpA.drop {Q : Exit → AEnv → AHeap → Prop} {c : Code} {B : Bool × Blk} (k : wpA P C N c Q σ H) : wpA P C N c Q σ (B :: H) := fun ρ I L hs => by
  obtain ⟨X, R, rfl, h1, h2⟩ := hs.heap
  exact wpS.forget (X := [X]) (k ρ I R ⟨hs.env, h2, hs.im0⟩)
theorem OpP.nilCheckL {α β : Type} {r : Rep α} {s : Rep β} {w : Value} {l : Lens α β} (hx : EvA C σ H x (.ln w l)) (k : K (.ln w l)) : OpP P N C ⟨d, .nilCheck x, ty, ps, af, g⟩ σ H K :=
  .vk k (fun ρ I L hs => by
    obtain ⟨u, h2, b, h3, rfl⟩ := hx ρ I L hs
    exact .mk ⟨b, h3, rfl⟩ fun a w ha hm => by simp [execOp, ha.ev h2])
theorem wpB.gk {ops : Array Oper} {Q : Exit → AEnv → AHeap → Prop} {rest : List Oper} {d : Nat} {op : Op} {ty : TypeId} {ps : String} {af : Array Edge} {j : Nat} {want : Bool} (dj : Nat) (hj : (ops[j]?).bind (·.dst) = some dj) {b : Bool} (hb : EvA C σ H (.tmp dj) (.v b)) (e : b = want)
    (h : OpH P C N ⟨some d, op, ty, ps, af, none⟩ σ H (fun r H' => wpB P C N ops Q rest ((d, r) :: σ) H')) : wpB P C N ops Q (⟨some d, op, ty, ps, af, some (j, want)⟩ :: rest) σ H := fun ρ I L hs => by
  refine .gt dj hj (by rw [← e]; exact hb.bool hs) (OpS.mono' (h ρ I L hs) fun v J L' ⟨hle, r, H', hr, hH, hk⟩ => hk _ _ _ (hs.put hle hr hH))
section slStr
variable {s : Str} {i j : Int} (hT : P.underlying T = some .string) (hx : EvA C σ H x (.v s))
include hT hx
end slStr
def AV.optU (c : Bool) (a : AV) : AV := .pr (fun I u => (c = true → RepV I a u) ∧ (c = false → u = undef)) (fun hle h => ⟨fun e => (h.1 e).mono hle, h.2⟩)
theorem EvA.ou {t : Nat} {a : AV} {c : Bool} (h : lookA σ t = some (.optU c a)) (hc : c = true) : EvA C σ H (.tmp t) a := fun ρ I L hs => by
  obtain ⟨u, h1, h2⟩ := hs.env t _ h
  exact ⟨u, h1, h2.1 hc⟩
section nested
variable {P : Program} {C : Ctx} {N : Nat} {ops : Array Oper} {Q : Exit → AEnv → AHeap → Prop} {rest : List Oper} {σ : AEnv} {H : AHeap}
theorem wpB.goU {d : Nat} {op : Op} {ty : TypeId} {ps : String} {af : Array Edge} {j : Nat} {want : Bool} (dj : Nat) (hj : (ops[j]?).bind (·.dst) = some dj) {b : Bool} (hb : EvA C σ H (.tmp dj) (.v b)) {r : AV}
    (h : b = want → OpP P N C ⟨some d, op, ty, ps, af, none⟩ σ H (fun r' => r' = r)) (k : wpB P C N ops Q rest ((d, .optU (b == want) r) :: σ) H) :
    wpB P C N ops Q (⟨some d, op, ty, ps, af, some (j, want)⟩ :: rest) σ H := fun ρ I L hs => by
  have hbv := hb.bool hs
  by_cases e : b = want
  · refine .gt dj hj (by rw [← e]; exact hbv) (OpS.ofX (OpX.monoLe (h e ρ I L hs) fun v J X hle ⟨hX, r', hr, hk⟩ => ?_))
    subst hX; subst hk
    exact k _ _ _ (hs.put hle (r := .optU (b == want) r') ⟨fun _ => hr, fun hc => absurd e (by simpa using hc)⟩ (hs.heap.mono hle))
  · have e' : b = !want := by cases b <;> cases want <;> simp_all
    exact .gf dj hj (by rw [← e']; exact hbv) (k _ _ _ (hs.put (Le.refl I) (r := .optU (b == want) r) ⟨fun hc => absurd (by simpa using hc) e, fun _ => rfl⟩ hs.heap))
theorem wpL_gu {ρ : Env} {I : Im} {L : Lh} {Q : Exit → Env → Im → Lh → Prop} {d : Nat} {op : Op} {ty : TypeId} {ps : String} {af : Array Edge} {j : Nat} {want : Bool} (dj : Nat) (hj : (ops[j]?).bind (·.dst) = some dj) (hb : Fl.look ρ dj = some undef)
    (h : wpL P C N ops Q rest ((d, undef) :: ρ) I L) : wpL P C N ops Q (⟨some d, op, ty, ps, af, some (j, want)⟩ :: rest) ρ I L := fun hd a w ha hs => by
  obtain ⟨hlt, hd'⟩ := dst_lt hd
  refine wpListIn_step fun K hK => ?_
  have hy : yielded ops a.tmps j = none := by unfold yielded; rw [hj]; simp only [Option.bind_some, ha.tmp dj _ hb]; rfl
  rw [if_neg (by simp [Region.wanted, hy])]
  exact ⟨fun _ _ => trivial, hK _ _ (h hd' _ _ (ha.put hlt undef) hs)⟩
theorem wpB.gn {d : Nat} {op : Op} {ty : TypeId} {ps : String} {af : Array Edge} {j : Nat} {want : Bool} (dj : Nat) (hj : (ops[j]?).bind (·.dst) = some dj) {b c : Bool} (hb : lookA σ dj = some (.optU c (.v b))) {r : AV}
    (h : c = true → b = want → OpP P N C ⟨some d, op, ty, ps, af, none⟩ σ H (fun r' => r' = r)) (k : wpB P C N ops Q rest ((d, .optU (c && (b == want)) r) :: σ) H) :
    wpB P C N ops Q (⟨some d, op, ty, ps, af, some (j, want)⟩ :: rest) σ H := fun ρ I L hs => by
  obtain ⟨u, hu1, hu2, hu3⟩ := hs.env dj _ hb
  cases c with
  | false =>
    obtain rfl := hu3 rfl
    exact wpL_gu dj hj hu1 (k _ _ _ (hs.put (Le.refl I) (r := .optU (false && (b == want)) r) ⟨fun hc => by simp at hc, fun _ => rfl⟩ hs.heap))
  | true =>
    have hbv : Fl.look ρ dj = some (.bool b) := by
      obtain ⟨cs, rfl, rfl⟩ := hu2 rfl
      exact hu1
    by_cases e : b = want
    · refine .gt dj hj (by rw [← e]; exact hbv) (OpS.ofX (OpX.monoLe (h rfl e ρ I L hs) fun v J X hle ⟨hX, r', hr, hk⟩ => ?_))
      subst hX; subst hk
      exact k _ _ _ (hs.put hle (r := .optU (true && (b == want)) r') ⟨fun _ => hr, fun hc => absurd e (by simpa using hc)⟩ (hs.heap.mono hle))
    · have e' : b = !want := by cases b <;> cases want <;> simp_all
      exact .gf dj hj (by rw [← e']; exact hbv) (k _ _ _ (hs.put (Le.refl I) (r := .optU (true && (b == want)) r) ⟨fun hc => absurd (by simpa using hc) e, fun _ => rfl⟩ hs.heap))
end nested
end Go.Ab
set_option linter.unusedVariables false
namespace Go.Ab
open Go.Fl Go.RowKit
open Rep (rep)
variable {P : Program} {C : Ctx} {N : Nat} {σ : AEnv} {H : AHeap} {K : AV → Prop} {KH : AV → AHeap → Prop} {d : Option Nat} {ty : TypeId} {ps : String} {af : Array Edge} {g : Option (Nat × Bool)}
variable {x y z : Operand} {T T2 E S D U : TypeId} {o : Oper}
theorem OpP.bS1 {α γ1 : Type} {r : Rep α} {i0 : Inhabited α} {q1 : Rep γ1} {offs : List (Nat × Nat)} {parts : Array (Nat × Operand)} {i1 : Nat} {o1 : Operand} {c1 : γ1} (m1 : Lens α γ1) (hg : Rep.agg α = true) (tT : TyIs P T α) (hT : fieldOffs P T = some offs) (mk : γ1 → α) (hm : ∀ c1, (m1.set c1 (default : α)) = mk c1) (hp : parts.toList = [(i1, o1)]) (h1 : offs[i1]? = some (m1.off, Rep.size γ1)) (e1 : EvA C σ H o1 (.v c1)) (k : K (.v (mk c1))) :
    OpP P N C ⟨d, .build T parts, ty, ps, af, g⟩ σ H K :=
  .buildS (mk c1) hg tT hT (by rw [hp]; exact (.cons m1 c1 h1 e1 .nil)) (hm c1) k
theorem OpP.bS0 {α : Type} {r : Rep α} {i0 : Inhabited α} {offs : List (Nat × Nat)} (hg : Rep.agg α = true) (tT : TyIs P T α) (hT : fieldOffs P T = some offs) (k : K (.v (default : α))) : OpP P N C ⟨d, .build T #[], ty, ps, af, g⟩ σ H K := .buildS default hg tT hT .nil rfl k
theorem OpP.fldW {β γ : Type} {s : Rep β} {q : Rep γ} {i off sz : Nat} {ag : Bool} {w : Value} (m : Lens β γ) (hf : fieldOff P T i = some (off, sz + 1, ag)) (ho : off = m.off) (hx : EvA C σ H x (.ln w (Lens.id (α := β)))) (k : K (.ln w m)) :
    OpP P N C ⟨d, .fieldAddr T x i, ty, ps, af, g⟩ σ H K :=
  .vk k (fun ρ I L hs => by
    obtain ⟨u, h2, b, h3, rfl⟩ := hx ρ I L hs
    subst ho
    exact .fieldAddr hf h2 ⟨b, h3, by simp [Lens.id]⟩)
theorem OpP.ldF {α β : Type} {r : Rep α} {s : Rep β} {i : Inhabited β} {w : Value} {l : Lens α β} {a : α} {bb : Bool} {F : Bool × Blk → AHeap} (f : α → β) (tT : TyIs P T β) (hx : EvA C σ H x (.ln w l)) (hH : Hole H (bb, .ob w a) F) (hf : ∀ x, l.get x = f x) (k : K (.v (f a))) :
    OpP P N C ⟨d, .load T x, ty, ps, af, g⟩ σ H K := .ldL tT hx hH (hf a ▸ k)
theorem OpH.stF {α β : Type} {r : Rep α} {s : Rep β} {i : Inhabited β} {w : Value} {l : Lens α β} {a : α} {c : β} {bb : Bool} {F : Bool × Blk → AHeap} (f : β → α → α) (tT : TyIs P T β) (hx : EvA C σ H x (.ln w l)) (hy : EvA C σ H y (.v c)) (hH : Hole H (bb, .ob w a) F) (hf : ∀ y x, l.set y x = f y x)
    (k : KH .any (F (bb, .ob w (f c a)))) : OpH P C N ⟨d, .store T x y, ty, ps, af, g⟩ σ H KH := .stL tT hx hy hH (hf c a ▸ k)
theorem OpP.ldEW {α : Type} {r : Rep α} {i : Inhabited α} {w : Value} {ags : List α} {kk : Nat} {bb : Bool} {E' : TypeId} {F : Bool × Blk → AHeap} (tT : TyIs P T α) (hx : EvA C σ H x (.el w kk (Lens.id (α := α)))) (hH : Hole H (bb, .own E' w ags) F) (hk : kk < ags.length)
    (k : K (.v ags[kk])) : OpP P N C ⟨d, .load T x, ty, ps, af, g⟩ σ H K := .ldE tT hx hH hk k
theorem OpH.stEW {α : Type} {r : Rep α} {i : Inhabited α} {w : Value} {ags : List α} {c : α} {kk : Nat} {bb : Bool} {E' : TypeId} {F : Bool × Blk → AHeap} (tT : TyIs P T α) (hx : EvA C σ H x (.el w kk (Lens.id (α := α)))) (hy : EvA C σ H y (.v c))
    (hH : Hole H (bb, .own E' w ags) F) (hk : kk < ags.length) (k : KH .any (F (bb, .own E' w (ags.set kk c)))) : OpH P C N ⟨d, .store T x y, ty, ps, af, g⟩ σ H KH := .stE tT hx hy hH hk k
theorem OpP.fldPF {β γ : Type} {s : Rep β} {q : Rep γ} {i off sz : Nat} {ag : Bool} {a : β} (m : Lens β γ) (f : β → γ) (hf : fieldOff P T i = some (off, sz + 1, ag)) (ho : off = m.off) (hm : ∀ x, m.get x = f x) (hx : EvA C σ H x (.p a)) (k : K (.p (f a))) :
    OpP P N C ⟨d, .fieldAddr T x i, ty, ps, af, g⟩ σ H K := .fldP m hf ho hx (hm a ▸ k)
end Go.Ab
set_option maxRecDepth 1000000
set_option linter.unusedVariables false
namespace Go.Mac
open Go.Ab
structure G_api_Predicate where
  Kind : Int
  Mask : UInt64
  From : Int
  To : Int
  Name : Str
  Number : Int
def G_api_Predicate.f (x : G_api_Predicate) : Int × UInt64 × Int × Int × Str × Int × Unit := (x.Kind, x.Mask, x.From, x.To, x.Name, x.Number, ())
instance : Inhabited G_api_Predicate := ⟨⟨default, default, default, default, default, default⟩⟩
instance : DecidableEq G_api_Predicate := fun a b => decidable_of_iff (a.Kind = b.Kind ∧ a.Mask = b.Mask ∧ a.From = b.From ∧ a.To = b.To ∧ a.Name = b.Name ∧ a.Number = b.Number) (by cases a; cases b; simp)
instance : Rep G_api_Predicate := Rep.via G_api_Predicate.f
instance : RepZ G_api_Predicate := RepZ.via G_api_Predicate.f rfl
def G_api_Predicate.l0 : Lens G_api_Predicate Int := Lens.via G_api_Predicate.f Lens.fst (fun x => x.Kind) (fun y x => { x with Kind := y }) (fun _ => rfl) (fun _ _ => rfl)
def G_api_Predicate.l1 : Lens G_api_Predicate UInt64 := Lens.via G_api_Predicate.f (Lens.snd.comp Lens.fst) (fun x => x.Mask) (fun y x => { x with Mask := y }) (fun _ => rfl) (fun _ _ => rfl)
def G_api_Predicate.l2 : Lens G_api_Predicate Int := Lens.via G_api_Predicate.f (Lens.snd.comp (Lens.snd.comp Lens.fst)) (fun x => x.From) (fun y x => { x with From := y }) (fun _ => rfl) (fun _ _ => rfl)
def G_api_Predicate.l3 : Lens G_api_Predicate Int := Lens.via G_api_Predicate.f (Lens.snd.comp (Lens.snd.comp (Lens.snd.comp Lens.fst))) (fun x => x.To) (fun y x => { x with To := y }) (fun _ => rfl) (fun _ _ => rfl)
def G_api_Predicate.l4 : Lens G_api_Predicate Str := Lens.via G_api_Predicate.f (Lens.snd.comp (Lens.snd.comp (Lens.snd.comp (Lens.snd.comp Lens.fst)))) (fun x => x.Name) (fun y x => { x with Name := y }) (fun _ => rfl) (fun _ _ => rfl)
def G_api_Predicate.l5 : Lens G_api_Predicate Int := Lens.via G_api_Predicate.f (Lens.snd.comp (Lens.snd.comp (Lens.snd.comp (Lens.snd.comp (Lens.snd.comp Lens.fst))))) (fun x => x.Number) (fun y x => { x with Number := y }) (fun _ => rfl) (fun _ _ => rfl)
structure G_macaroonmade_Deck where
  L : (List Int)
  At : Int
def G_macaroonmade_Deck.f (x : G_macaroonmade_Deck) : (List Int) × Int × Unit := (x.L, x.At, ())
instance : Inhabited G_macaroonmade_Deck := ⟨⟨default, default⟩⟩
instance : Rep G_macaroonmade_Deck := Rep.via G_macaroonmade_Deck.f
instance : RepZ G_macaroonmade_Deck := RepZ.via G_macaroonmade_Deck.f rfl
def G_macaroonmade_Deck.l0 : Lens G_macaroonmade_Deck (List Int) := Lens.via G_macaroonmade_Deck.f Lens.fst (fun x => x.L) (fun y x => { x with L := y }) (fun _ => rfl) (fun _ _ => rfl)
def G_macaroonmade_Deck.l1 : Lens G_macaroonmade_Deck Int := Lens.via G_macaroonmade_Deck.f (Lens.snd.comp Lens.fst) (fun x => x.At) (fun y x => { x with At := y }) (fun _ => rfl) (fun _ _ => rfl)
structure G_predicate_reader where
  b : (List UInt8)
  used : Int
  e : Int
def G_predicate_reader.f (x : G_predicate_reader) : (List UInt8) × Int × Int × Unit := (x.b, x.used, x.e, ())
instance : Inhabited G_predicate_reader := ⟨⟨default, default, default⟩⟩
instance : Rep G_predicate_reader := Rep.via G_predicate_reader.f
instance : RepZ G_predicate_reader := RepZ.via G_predicate_reader.f rfl
def G_predicate_reader.l0 : Lens G_predicate_reader (List UInt8) := Lens.via G_predicate_reader.f Lens.fst (fun x => x.b) (fun y x => { x with b := y }) (fun _ => rfl) (fun _ _ => rfl)
def G_predicate_reader.l1 : Lens G_predicate_reader Int := Lens.via G_predicate_reader.f (Lens.snd.comp Lens.fst) (fun x => x.used) (fun y x => { x with used := y }) (fun _ => rfl) (fun _ _ => rfl)
def G_predicate_reader.l2 : Lens G_predicate_reader Int := Lens.via G_predicate_reader.f (Lens.snd.comp (Lens.snd.comp Lens.fst)) (fun x => x.e) (fun y x => { x with e := y }) (fun _ => rfl) (fun _ _ => rfl)
structure G_macaroonref06_Reader where
  B : (List UInt8)
  Used : Int
  E : Int
def G_macaroonref06_Reader.f (x : G_macaroonref06_Reader) : (List UInt8) × Int × Int × Unit := (x.B, x.Used, x.E, ())
instance : Inhabited G_macaroonref06_Reader := ⟨⟨default, default, default⟩⟩
instance : Rep G_macaroonref06_Reader := Rep.via G_macaroonref06_Reader.f
instance : RepZ G_macaroonref06_Reader := RepZ.via G_macaroonref06_Reader.f rfl
def G_macaroonref06_Reader.l0 : Lens G_macaroonref06_Reader (List UInt8) := Lens.via G_macaroonref06_Reader.f Lens.fst (fun x => x.B) (fun y x => { x with B := y }) (fun _ => rfl) (fun _ _ => rfl)
def G_macaroonref06_Reader.l1 : Lens G_macaroonref06_Reader Int := Lens.via G_macaroonref06_Reader.f (Lens.snd.comp Lens.fst) (fun x => x.Used) (fun y x => { x with Used := y }) (fun _ => rfl) (fun _ _ => rfl)
def G_macaroonref06_Reader.l2 : Lens G_macaroonref06_Reader Int := Lens.via G_macaroonref06_Reader.f (Lens.snd.comp (Lens.snd.comp Lens.fst)) (fun x => x.E) (fun y x => { x with E := y }) (fun _ => rfl) (fun _ _ => rfl)
structure G_errors_errorString where
  s : Str
end Go.Mac
set_option linter.unusedVariables false
namespace Go.Ab
open Go.Fl Go.RowKit
open Rep (rep)
section clo
variable {P : Program} {C : Ctx} {N : Nat} {σ : AEnv} {H : AHeap} {G : Gl} {f : FuncId} {d : Option Nat} {args : Array Operand} {tys : Array TypeId} {ty : TypeId} {ps : String} {af : Array Edge} {g : Option (Nat × Bool)} {K : AV → Prop}
end clo
end Go.Ab
set_option linter.unusedVariables false
namespace Go.Ab
open Go.Fl Go.RowKit
open Rep (rep)
section rules
variable {P : Program} {C : Ctx} {N : Nat} {σ : AEnv} {H : AHeap} {d : Option Nat} {ty : TypeId} {ps : String} {af : Array Edge} {g : Option (Nat × Bool)} {K : AV → Prop} {KH : AV → AHeap → Prop} {x y z : Operand} {T T2 E S D U : TypeId}
theorem foldl_bytes : ∀ (l : List UInt8) (s : ByteArray), (l.map (fun c => (c.toNat : Int))).foldl (fun r n => r.push (UInt8.ofNat n.toNat)) s = ⟨s.data ++ l.toArray⟩
  | [], s => by simp
  | c :: l, s => by
    rw [List.map_cons, List.foldl_cons, foldl_bytes l]
    simp [ByteArray.push]
theorem OpP.bytesStr {l : List UInt8} (hS : P.underlying S = some (.slice E)) (hE : P.underlying E = some (.int .u8)) (hD : P.underlying D = some .string) (hx : EvA C σ H x (.v l)) (k : K (.v (Str.mk l))) :
    OpP P N C ⟨d, .convert S D x, ty, ps, af, g⟩ σ H K :=
  .vk k (fun ρ I L hs => .mk ⟨[.string ⟨l.toArray⟩], ⟨⟨_, rfl, by simp⟩, by
      obtain ⟨u, h1, xs, ⟨a, c, rfl, h2, h3, h4, _⟩, _⟩ := hx.sl hs
      unfold maxLen at h4; show l.length ≤ _; omega⟩, rfl⟩ fun ac w ha hm => by
    obtain ⟨u, h1, xs, hsl, hl⟩ := hx.sl hs
    obtain rfl := repL_u8.1 hl
    obtain ⟨a, c, rfl, h2, h3, h4, h5, h6⟩ := hsl
    have hrun : (convert S D (.slice a l.length c)).run P w = .ok (.string ⟨l.toArray⟩) w := by
      rw [run_convert_bytes_string w S D E a l.length c hS hE hD]
      cases a with
      | none =>
        have hc := h5 rfl
        have : l = [] := List.eq_nil_of_length_eq_zero (by omega)
        subst this
        simp [Conv.bytesToString]; rfl
      | some ad =>
        have hload : (loadCells ad l.length).run P w = .ok ((l.map (fun c => (c.toNat : Int))).map (Value.int .u8)).toArray w := by
          have h7 := run_loadCells_list (P := P) w ad (bytesV l) (fun j v hj => by
            have hne : bytesV l ≠ [] := by intro e; simp [e] at hj
            obtain ⟨b, o, hab, hcl⟩ := h6 hne
            cases hab
            have := hcl.cell hm hj
            have hplain : (⟨b, o, none⟩ : Addr).add j = ⟨b, o + j, none⟩ := by unfold Addr.add; split <;> simp_all
            rw [hplain]; exact this)
          have e1 : (bytesV l).length = l.length := by simp [bytesV]
          have e2 : (l.map (fun c => (c.toNat : Int))).map (Value.int .u8) = bytesV l := by simp [bytesV, Fl.u8]
          rw [e1] at h7
          rw [e2]; exact h7
        rw [run_bytesToString w ad l.length c _ hload, foldl_bytes]
        simp [ByteArray.empty, ByteArray.emptyWithCapacity]
        rfl
    simp [execOp, ha.ev h1, hrun, asV, Rep.agg])
theorem OpP.eqNilS {α : Type} {r : Rep α} {l : List α} (hT : P.underlying T = some (.slice E)) (hx : EvA C σ H x (.v l)) (k : ∀ c : Bool, (c = true → l = []) → K (.v c)) :
    OpP P N C ⟨d, .binOp .eql T x (.const (.slice none 0 0)) T2, ty, ps, af, g⟩ σ H K := fun ρ I L hs => by
  obtain ⟨u, h1, xs, ⟨a, c, rfl, h2, h3, h4, h5, h6⟩, hl⟩ := hx.sl hs
  refine .ofV (OpV.eqlNilS hT h1 rfl ⟨rfl, .v a.isNone, ⟨_, rfl, rfl⟩, k _ fun e => ?_⟩)
  have := h5 (by simpa using e)
  exact List.eq_nil_of_length_eq_zero (by omega)
end rules
end Go.Ab
set_option linter.unusedVariables false
namespace Go.Ab
open Go.Fl Go.RowKit
open Rep (rep)
structure GInv (P : Program) (C : Ctx) (N n : Nat) (l : List Oper) (ci : List Nat) (σ0 : AEnv) (accP : List (Nat × AV)) (Inv : Array Bool → List (Nat × AV) → AHeap → Prop) (ρ0 : Env) (I : Im)
    (listed : Array Bool) (cacc : List (Nat × AV)) (H : AHeap) (J : Im) (L : Lh) (vs : Nat → Value) (a : Act) (w : World) : Prop where
  head : HeadInv .any l.toArray n listed
  le : Le I J
  im0 : Le C.I0 J
  st : St C J L w
  heap : repH C.w0.heap.size J H L
  pl : Inv listed cacc H
  keys : ∀ j r, lookR cacc j = some r → j ∈ ci
  fresh : ∀ j r, lookR cacc j = some r → listed.getD j false = true
  prom : ∀ j r r0, lookR cacc j = some r → lookR accP j = some r0 → r = r0
  proL : ∀ j, j ∈ ci → listed.getD j false = true → ∃ r, lookR cacc j = some r
  val : ∀ j, j < n → listed.getD j false = true → ∃ r, lookR (cacc ++ accP) j = some r ∧ RepV J r (vs j)
  defers : a.defers = []
  size : a.tmps.size = N
  tmpI : ∀ j d, j < n → listed.getD j false = true → (l.toArray[j]?).bind (·.dst) = some d → a.tmps[d]? = some (vs j)
  tmpO : ∀ t v, Fl.look ρ0 t = some v → (∀ j, j < n → listed.getD j false = true → (l.toArray[j]?).bind (·.dst) ≠ some t) → a.tmps[t]? = some v
section
variable {P : Program} {C : Ctx} {N n : Nat} {l : List Oper} {ci : List Nat} {ss : List (List (Nat × Nat))} {σ0 : AEnv} {ι : Type 1} {HT : Nat → ι → AHeap} {accP : List (Nat × AV)} {Inv : Array Bool → List (Nat × AV) → AHeap → Prop} {ρ0 : Env} {I : Im} {L0 : Lh} {H0 : AHeap}
end
end Go.Ab
set_option linter.unusedVariables false
namespace Go.Ab
open Go.Fl Go.RowKit
open Rep (rep)
structure AT where
  α : Type
  r : Rep α
  d : α
def AT.res (t : AT) (b : Nat) : AV := @AV.ln t.α t.α t.r t.r (ptr b 0) (@Lens.id t.α t.r)
def AT.blk (t : AT) (b : Nat) : Bool × Blk := (true, @Blk.ob t.α t.r (ptr b 0) t.d)
def hole0 : Bool × Blk := (true, .fz undef .any)
def hA (listed : Nat → Bool) (ws : Nat → Nat) (al : List (Nat × AT)) : AHeap := al.map fun p => bif listed p.1 then p.2.blk (ws p.1) else hole0
theorem flatten_move {L : Lh} {i : Nat} (h : L[i]? = some []) (X : List (Nat × Obj)) : (L.set i X).flatten.Perm (X ++ L.flatten) := by
  obtain ⟨h1, h2⟩ := split_at L i [] h X
  rw [h1, h2, List.nil_append, ← List.append_assoc, ← List.append_assoc]
  exact List.Perm.append_right _ List.perm_append_comm
def rA (ws : Nat → Nat) (al : List (Nat × AT)) : List (Nat × AV) := al.map fun p => (p.1, p.2.res (ws p.1))
section
variable {P : Program} {C : Ctx} {N n : Nat} {ι : Type 1} {HT : ι → AHeap} {σ : AEnv} {full : List (Nat × AV)} {F : List (Nat × AV) → AHeap → Prop} {l : List Oper} {ss : List (List (Nat × Nat))} {al : List (Nat × AT)} {ci : List Nat} {H0 : AHeap} {listed : Array Bool} {cacc : List (Nat × AV)} {H : AHeap}
end
theorem repH.dropL {n0 : Nat} {I : Im} : ∀ (m : Nat) {H : AHeap} {L : Lh}, repH n0 I H L → repH n0 I (H.drop m) (L.drop m)
  | 0, _, _, h => h
  | m + 1, [], _, h => by simp only [repH] at h; subst h; exact (show repH n0 I [] [] from rfl)
  | m + 1, B :: H, _, h => by obtain ⟨X, R, rfl, h1, h2⟩ := h; exact repH.dropL m h2
theorem mem_dropL {L : Lh} {m : Nat} {p : Nat × Obj} (h : p ∈ (L.drop m).flatten) : p ∈ L.flatten := by
  rw [← List.take_append_drop m L, List.flatten_append]; exact List.mem_append_right _ h
theorem FunH.introD {G : Gl} {P : Program} {f : FuncId} {fn : Func} {c : Code} {ags : List AV} {Hs : List Blk} {post : AV → List Blk → Prop} (hf : P.funcs[f]? = some fn) (hb : fn.body = some c) (hn : (fn.name == "runtime.NumGoroutine") = false)
    (N : Nat) (hN : fn.ntmps = N) (hl : Nat.ble ags.length N = true) (σ : AEnv) (hσ : argA ags 0 = σ) (H0 : AHeap) (hH : lentB Hs = H0)
    (h : ∀ C : Ctx, Ctx.Ok C → G.p C.I0 → wpA P C N c (endA P fn C (fun r H => ∃ m : Nat, post r ((H.drop m).map Prod.snd))) σ H0) : FunH G P f ags Hs post := fun I L vs hG hvs hL =>
  ⟨⟨fn, hf, hn, by simp [hb]⟩, fun w hm => calls_body hf hb N hN (by rw [hvs.len]; exact hl) hm (M := L.flatten.map Prod.fst) (fun p hp => List.mem_map_of_mem hp)
    ((h ⟨w, L.flatten.map Prod.fst, I, none⟩ (fun k hk => by
        obtain ⟨p, hp, rfl⟩ := List.mem_map.1 hk
        exact lt_of_get (hm.loc p hp)) hG (argEnv vs 0) I L ⟨by rw [← hσ]; exact hvs.env 0, by rw [← hH, lentB_eq]; exact hL.toH, Le.refl I⟩).mono fun e ρ J L hq => endA.q hq)
    fun v J L' w' hs hp => by
      obtain ⟨r, H, h1, h2, m, h3⟩ := hp
      refine ⟨v, J, L'.drop m, rfl, hs.chg, hs.im0, fun b h0 h1 => hs.new b h0 h1, ⟨hs.mem.im, fun p hp => hs.mem.loc p (mem_dropL hp), fun p hp => hs.mem.sep p (mem_dropL hp), ?_⟩, fun p hp => hs.own p (mem_dropL hp), r, _, h1, (h2.dropL m).toK, h3⟩
      have := hs.mem.nodup
      rw [← List.take_append_drop m L', List.flatten_append, List.map_append, List.nodup_append] at this
      exact this.2.1⟩
theorem wpA.nilOwn {P : Program} {C : Ctx} {N : Nat} {Q : Exit → AEnv → AHeap → Prop} {σ : AEnv} {H : AHeap} {c : Code} (E : TypeId) (α : Type) [r : Rep α] (k : wpA P C N c Q σ ((true, .own E (.slice none 0 0) ([] : List α)) :: H)) : wpA P C N c Q σ H := fun ρ I L hs =>
  wpS.pad (k ρ I ([] :: L) ⟨hs.env, ⟨[], L, rfl, ⟨⟨[], OwnG.nil E _, rfl⟩, fun _ p hp => by cases hp⟩, hs.heap⟩, hs.im0⟩)
theorem wpB.nilOwn {P : Program} {C : Ctx} {N : Nat} {ops : Array Oper} {Q : Exit → AEnv → AHeap → Prop} {os : List Oper} {σ : AEnv} {H : AHeap} (E : TypeId) (α : Type) [r : Rep α] (k : wpB P C N ops Q os σ ((true, .own E (.slice none 0 0) ([] : List α)) :: H)) : wpB P C N ops Q os σ H := fun ρ I L hs =>
  wpL.pad (k ρ I ([] :: L) ⟨hs.env, ⟨[], L, rfl, ⟨⟨[], OwnG.nil E _, rfl⟩, fun _ p hp => by cases hp⟩, hs.heap⟩, hs.im0⟩)
theorem OpP.shr64 {P : Program} {C : Ctx} {N : Nat} {σ : AEnv} {H : AHeap} {d : Option Nat} {ty : TypeId} {ps : String} {af : Array Edge} {g : Option (Nat × Bool)} {K : AV → Prop} {x y : Operand} {T T2 : TypeId} {m c : UInt64} (hx : EvA C σ H x (.v m)) (hy : EvA C σ H y (.v c)) (h0 : 0 ≤ c.toNat) (h1 : c.toNat < 64) (k : K (.v (m >>> c))) :
    OpP P N C ⟨d, .binOp .shr T x y T2, ty, ps, af, g⟩ σ H K :=
  .vk k (fun ρ I L hs => OpV.shr64 c.toNat (hx.by64 hs) (hy.by64 hs) rfl h1 ⟨[Fl.u64 (m >>> c)], rfl, by rw [UInt64.ofNat_toNat]; rfl⟩)
theorem OpP.conv64_8 {P : Program} {C : Ctx} {N : Nat} {σ : AEnv} {H : AHeap} {d : Option Nat} {ty : TypeId} {ps : String} {af : Array Edge} {g : Option (Nat × Bool)} {K : AV → Prop} {x : Operand} {S D : TypeId} {ds : TypeDesc} {m : UInt64} (hS : P.underlying S = some ds) (hD : P.underlying D = some (.int .u8)) (hx : EvA C σ H x (.v m)) (k : K (.v m.toUInt8)) :
    OpP P N C ⟨d, .convert S D x, ty, ps, af, g⟩ σ H K :=
  .vk k (fun ρ I L hs => OpV.conv64_8 hS hD (hx.by64 hs) ⟨[Fl.u8 m.toUInt8], rfl, rfl⟩)
end Go.Ab
set_option linter.unusedVariables false
namespace Go.Ab
open Go.Fl Go.RowKit
open Rep (rep)
structure SlRaw where
  v : Value
structure GS (α : Type) where
  E : TypeId
  l : List α
section rules
variable {P : Program} {C : Ctx} {N : Nat} {σ : AEnv} {H : AHeap} {d : Option Nat} {ty : TypeId} {ps : String} {af : Array Edge} {g : Option (Nat × Bool)} {K : AV → Prop} {KH : AV → AHeap → Prop} {x y z : Operand} {T T2 E S D U : TypeId} {o : Oper}
theorem wpA.name {Q : Exit → AEnv → AHeap → Prop} (t : Nat) {a : AV} {c : Code} (ht : lookA σ t = some a) (k : ∀ w, wpA P C N c Q ((t, .raw w) :: σ) ((true, .fz w a) :: H)) : wpA P C N c Q σ H := fun ρ I L hs => by
  obtain ⟨u, h1, h2⟩ := hs.env t _ ht
  refine wpS.pad (k u ρ I ([] :: L) ⟨fun s b hb => ?_, ⟨[], L, rfl, ⟨⟨rfl, h2⟩, fun _ p hp => by cases hp⟩, hs.heap⟩, hs.im0⟩)
  rw [lookA_cons] at hb
  by_cases e : t = s
  · subst e; simp at hb; subst hb; exact ⟨u, h1, rfl⟩
  · rw [if_neg e] at hb; exact hs.env s b hb
end rules
def Sel (H : AHeap) (Hs : List Blk) : Prop := ∀ n0 I L, repH n0 I H L → ∃ L' R, (L'.flatten ++ R).Perm L.flatten ∧ repK I Hs L'
theorem Sel.nil {H : AHeap} : Sel H [] := fun n0 I L h => ⟨[], L.flatten, by simp, rfl⟩
theorem Sel.cons {H : AHeap} {b : Bool} {B : Blk} {Hs : List Blk} {F : Bool × Blk → AHeap} (hh : Hole H (b, B) F) (h : Sel (F hole0) Hs) : Sel H (B :: Hs) := fun n0 I L hL => by
  obtain ⟨i, X, h1, h2, h3⟩ := hh.get hL
  have h4 := h3 I hole0 [] (Le.refl I) ⟨⟨rfl, trivial⟩, fun _ p hp => by cases hp⟩
  obtain ⟨L', R, h5, h6⟩ := h n0 I _ h4
  refine ⟨X :: L', R, ?_, X, L', rfl, h2.1, h6⟩
  have h7 : (L.set i [])[i]? = some [] := by
    have hi := (List.getElem?_eq_some_iff.1 h1).1
    simp [hi]
  have h8 := flatten_move h7 X
  have h9 : (L.set i []).set i X = L := by
    obtain ⟨hi, e⟩ := List.getElem?_eq_some_iff.1 h1
    rw [List.set_set, ← e, List.set_getElem_self]
  rw [h9] at h8
  rw [List.flatten_cons, List.append_assoc]
  exact (List.Perm.append_left X h5).trans h8.symm
theorem FunH.introS {G : Gl} {P : Program} {f : FuncId} {fn : Func} {c : Code} {ags : List AV} {Hs : List Blk} {post : AV → List Blk → Prop} (hf : P.funcs[f]? = some fn) (hb : fn.body = some c) (hn : (fn.name == "runtime.NumGoroutine") = false)
    (N : Nat) (hN : fn.ntmps = N) (hl : Nat.ble ags.length N = true) (σ : AEnv) (hσ : argA ags 0 = σ) (H0 : AHeap) (hH : lentB Hs = H0)
    (h : ∀ C : Ctx, Ctx.Ok C → G.p C.I0 → wpA P C N c (endA P fn C (fun r H => ∃ Hs', Sel H Hs' ∧ post r Hs')) σ H0) : FunH G P f ags Hs post := fun I L vs hG hvs hL =>
  ⟨⟨fn, hf, hn, by simp [hb]⟩, fun w hm => calls_body hf hb N hN (by rw [hvs.len]; exact hl) hm (M := L.flatten.map Prod.fst) (fun p hp => List.mem_map_of_mem hp)
    ((h ⟨w, L.flatten.map Prod.fst, I, none⟩ (fun k hk => by
        obtain ⟨p, hp, rfl⟩ := List.mem_map.1 hk
        exact lt_of_get (hm.loc p hp)) hG (argEnv vs 0) I L ⟨by rw [← hσ]; exact hvs.env 0, by rw [← hH, lentB_eq]; exact hL.toH, Le.refl I⟩).mono fun e ρ J L hq => endA.q hq)
    fun v J L' w' hs hp => by
      obtain ⟨r, H, h1, h2, Hs', h3, h4⟩ := hp
      obtain ⟨L2, R, h5, h6⟩ := h3 _ J L' h2
      have hin : ∀ p ∈ L2.flatten, p ∈ L'.flatten := fun p hp => h5.mem_iff.1 (List.mem_append_left _ hp)
      refine ⟨v, J, L2, rfl, hs.chg, hs.im0, fun b h0 h1 => hs.new b h0 h1, ⟨hs.mem.im, fun p hp => hs.mem.loc p (hin p hp), fun p hp => hs.mem.sep p (hin p hp), ?_⟩, fun p hp => hs.own p (hin p hp), r, _, h1, h6, h4⟩
      have := (h5.map Prod.fst).nodup_iff.2 hs.mem.nodup
      rw [List.map_append, List.nodup_append] at this
      exact this.1⟩
theorem FunH.mono {G : Gl} {P : Program} {f : FuncId} {ags : List AV} {Hs : List Blk} {post post' : AV → List Blk → Prop} (h : FunH G P f ags Hs post) (hp : ∀ r Hs, post r Hs → post' r Hs) : FunH G P f ags Hs post' := fun I L vs hG hvs hL => by
  have hM := h I L vs hG hvs hL
  refine ⟨hM.ok, fun w hm => (hM.run w hm).mono ?_⟩
  rintro e w' ⟨v, J, L', rfl, q1, q2, q3, q4, q5, r, Hs', q6, q7, q8⟩
  exact ⟨v, J, L', rfl, q1, q2, q3, q4, q5, r, Hs', q6, q7, hp r Hs' q8⟩
end Go.Ab
set_option linter.unusedVariables false
namespace Go.Ab
open Go.Fl Go.RowKit
open Rep (rep)
def lateQ (P : Program) (N : Nat) (C : Ctx) (σ0 : AEnv) {ι : Type 1} (HT : ι → AHeap) (acc : List (Nat × AV)) (o : Oper) (s : List (Nat × Nat)) (r : AV) : Prop := ∀ Hp, OpP P N C o (envOf σ0 acc s (opTmps o)) (HT Hp) (fun r' => r' = r)
def prom (P : Program) (N : Nat) (C : Ctx) (σ0 : AEnv) {ι : Type 1} (HT : Nat → ι → AHeap) (accP : List (Nat × AV)) : List (Nat × Oper × List (Nat × Nat)) → List (Nat × AV) → (List (Nat × AV) → Prop) → Prop
  | [], c, K => K c
  | (i, o, s) :: rest, c, K => ∃ r, lateQ P N C σ0 (HT i) (c ++ accP) o s r ∧ prom P N C σ0 HT accP rest ((i, r) :: c) K
def srcFree (ss : List (List (Nat × Nat))) (i : Nat) (L : List Nat) : Bool := match ss[i]? with | some s => s.all (fun p => !(L.contains p.2)) | none => true
def lateL (ss : List (List (Nat × Nat))) : List Nat → Bool
  | [] => true
  | i :: r => srcFree ss i (i :: r) && !(r.contains i) && lateL ss r
section
variable (P : Program) (C : Ctx) (N : Nat) (σ0 : AEnv) (bs : Nat → List Bool) (HT : Nat → (AHeap × (Nat → Bool × Blk)) → AHeap) (lps : Nat → List (Nat × Oper × List (Nat × Nat))) (H0 : AHeap) (accP : List (Nat × AV)) (al : List (Nat × AT)) (F : List (Nat × AV) → AHeap → AHeap → Prop)
def planZ : List (Nat × Oper × List (Nat × Nat)) → Nat → List (Nat × AV) → AHeap → AHeap → Prop
  | [], k, cacc, Zs, Hr => (∃ f, Hr = famT (bs k) H0 f 0) ∧ ∀ ws : Nat → Nat, F (cacc ++ rA ws al) (Zs ++ (al.map fun p => p.2.blk (ws p.1))) Hr
  | (i, o, s) :: rest, k, cacc, Zs, Hr => (∃ f, Hr = famT (bs k) H0 f 0) ∧ ∀ Ys : AHeap,
    match lookR accP i with
    | none => OpH P C N o (envOf σ0 (cacc ++ accP) s (opTmps o)) (Zs ++ (Ys ++ Hr)) (fun r H' => ∃ Zs' Hr', H' = Zs' ++ (Ys ++ Hr') ∧ prom P N C σ0 HT accP (lps (k + 1)) ((i, r) :: cacc) (fun c => planZ rest (k + 1) c Zs' Hr'))
    | some r0 => OpH P C N o (envOf σ0 (cacc ++ accP) s (opTmps o)) (Zs ++ (Ys ++ Hr)) (fun r H' => r = r0 ∧ ∃ Zs' Hr', H' = Zs' ++ (Ys ++ Hr') ∧ prom P N C σ0 HT accP (lps (k + 1)) ((i, r0) :: cacc) (fun c => planZ rest (k + 1) c Zs' Hr'))
end
def guardless (ops : Array Oper) (i : Nat) : Bool := match ops[i]? with | some o => o.guard.isNone | none => false
def lpMem (lps : List (List Nat)) (q i : Nat) : Prop := ∃ m, m ≤ q ∧ i ∈ lps.getD m []
structure InvZ (P : Program) (C : Ctx) (N : Nat) (σ : AEnv) (bs : Nat → List Bool) (HT : Nat → (AHeap × (Nat → Bool × Blk)) → AHeap) (l : List Oper) (ss : List (List (Nat × Nat))) (lps : List (List Nat)) (H0 : AHeap) (full : List (Nat × AV)) (F : List (Nat × AV) → AHeap → AHeap → Prop) (al : List (Nat × AT)) (ci : List Nat) (cp : List (Nat × Oper × List (Nat × Nat)))
    (k : Nat) (c1 : List (Nat × AV)) (Zs Hr : AHeap) (ws : Nat → Nat) (listed : Array Bool) (cacc : List (Nat × AV)) (H : AHeap) : Prop where
  w : ∀ j ∈ ci, listed.getD j false = true → ∀ i, Region.waitsFor .any l.toArray j i = true → listed.getD i false = true
  kle : k ≤ ci.length
  kp : k ≤ cp.length
  ch : ∀ m i, ci[m]? = some i → (listed.getD i false = true ↔ m < k)
  al0 : ∀ j, j ∈ al.map Prod.fst → lookR c1 j = none
  oth : ∀ j, j ∉ al.map Prod.fst → ¬ lpMem lps ci.length j → lookR cacc j = lookR c1 j
  al1 : ∀ j, j ∈ al.map Prod.fst → lookR cacc j = if listed.getD j false = true then lookR (rA ws al) j else none
  lp : ∀ j, lpMem lps ci.length j → lookR cacc j = (if listed.getD j false = true then lookR c1 j else none) ∧ (listed.getD j false = true → lpMem lps k j)
  due : ∀ m i o s, m ≤ k → i ∈ lps.getD m [] → l[i]? = some o → ss[i]? = some s → ∃ r, lookR c1 i = some r ∧ lateQ P N C σ (HT i) (c1 ++ full) o s r
  H : H = Zs ++ (hA (fun j => listed.getD j false) ws al ++ Hr)
  pl : planZ P C N σ bs HT (fun k => clOf l ss (lps.getD k [])) H0 full al F (cp.drop k) k c1 Zs Hr
section
variable {P : Program} {C : Ctx} {N n : Nat} {σ : AEnv} {bs : Nat → List Bool} {HT : Nat → (AHeap × (Nat → Bool × Blk)) → AHeap} {lps : List (List Nat)} {full : List (Nat × AV)} {F : List (Nat × AV) → AHeap → AHeap → Prop} {l : List Oper} {cp : List (Nat × Oper × List (Nat × Nat))} {kA : Nat} {ss : List (List (Nat × Nat))} {al : List (Nat × AT)} {ci : List Nat} {H0 : AHeap} {listed : Array Bool} {cacc c1 : List (Nat × AV)} {H Zs Hr : AHeap} {k : Nat} {ws : Nat → Nat}
structure OkZ (l : List Oper) (n : Nat) (ss : List (List (Nat × Nat))) (ks ci : List Nat) (lps : List (List Nat)) (kA : Nat) : Prop where
  chain : chainOk l.toArray n ss ci = true
  cg : ∀ i ∈ ci, guardless l.toArray i = true
  ksn : ∀ i ∈ ks, i < n ∧ i ∉ ci
  csrc : ∀ m i, m < kA → ci[m]? = some i → srcFree ss i ks = true
  calc_ : ∀ m i, kA ≤ m → ci[m]? = some i → ∀ j ∈ ks, Region.waitsFor .any l.toArray i j = true
  lp : ∀ m i, m ≤ ci.length → i ∈ lps.getD m [] → i < n ∧ i ∉ ci ∧ i ∉ ks ∧ guardless l.toArray i = true ∧ srcFree ss i ks = true ∧ (m ≠ 0 ∧ ∃ j, Region.waitsFor .any l.toArray i j = true ∧ ((∃ m', m = m' + 1 ∧ ci[m']? = some j) ∨ j ∈ lps.getD m [])) ∧
    ∀ m2, m < m2 → m2 ≤ ci.length → (∀ m3 j, m2 = m3 + 1 → ci[m3]? = some j → srcFree ss i [j] = true) ∧ srcFree ss i (lps.getD m2 []) = true ∧ i ∉ lps.getD m2 []
  late : ∀ m, m ≤ ci.length → lateL ss (lps.getD m []) = true
end
end Go.Ab
set_option linter.unusedVariables false
namespace Go.Ab
open Go.Fl Go.RowKit
open Rep (rep)
section rules
variable {P : Program} {C : Ctx} {N : Nat} {σ : AEnv} {H : AHeap} {d : Option Nat} {ty : TypeId} {ps : String} {af : Array Edge} {g : Option (Nat × Bool)} {K : AV → Prop} {KH : AV → AHeap → Prop} {x y z : Operand} {T T2 E S D U : TypeId} {o : Oper}
end rules
section forget
variable {P : Program} {C : Ctx} {N : Nat} {σ : AEnv} {H : AHeap}
end forget
section calls
variable {P : Program} {C : Ctx} {N : Nat} {σ : AEnv} {H : AHeap} {G : Gl} (hG : G.p C.I0) {f : FuncId} {d : Option Nat} {args : Array Operand} {tys : Array TypeId} {ty : TypeId} {ps : String} {af : Array Edge} {g : Option (Nat × Bool)} {ags : List AV}
include hG
end calls
end Go.Ab
set_option linter.unusedVariables false
namespace Go.Fl
open Go.RowKit
section
variable {P : Program} {C : Ctx} {N : Nat} {ρ : Env} {I : Im} {L : Lh} {d : Option Nat} {F : Operand} {args : Array Operand} {tys : Array TypeId} {ty : TypeId} {ps : String} {af : Array Edge} {g : Option (Nat × Bool)} {vs : List Value}
end
end Go.Fl
set_option linter.unusedVariables false
namespace Go.Fl
open Go.RowKit
section
variable {P : Program} {C : Ctx} {N : Nat} {Q : Exit → Env → Im → Lh → Prop} {ρ : Env} {I : Im} {L : Lh}
end
abbrev Chunk := List (Nat × Obj)
end Go.Fl
set_option linter.unusedVariables false
namespace Go.Ab
open Go.Fl Go.RowKit
open Rep (rep)
theorem OpP.mul64 {P : Program} {C : Ctx} {N : Nat} {σ : AEnv} {H : AHeap} {d : Option Nat} {ty : TypeId} {ps : String} {af : Array Edge} {g : Option (Nat × Bool)} {K : AV → Prop} {x y : Operand} {T T2 : TypeId} {m n : UInt64} (hx : EvA C σ H x (.v m)) (hy : EvA C σ H y (.v n)) (k : K (.v (m * n))) :
    OpP P N C ⟨d, .binOp .mul T x y T2, ty, ps, af, g⟩ σ H K := .vk k (fun ρ I L hs => .mul64 (hx.by64 hs) (hy.by64 hs) ⟨_, rfl, rfl⟩)
theorem OpP.conv8_64 {P : Program} {C : Ctx} {N : Nat} {σ : AEnv} {H : AHeap} {d : Option Nat} {ty : TypeId} {ps : String} {af : Array Edge} {g : Option (Nat × Bool)} {K : AV → Prop} {x : Operand} {S D : TypeId} {ds : TypeDesc} {m : UInt8} (hS : P.underlying S = some ds) (hD : P.underlying D = some (.int .u64))
    (hx : EvA C σ H x (.v m)) (k : K (.v m.toUInt64)) : OpP P N C ⟨d, .convert S D x, ty, ps, af, g⟩ σ H K := .vk k (fun ρ I L hs => OpV.conv8_64 hS hD (hx.by8 hs) ⟨[Fl.u64 m.toUInt64], rfl, rfl⟩)
structure Iter where
  K : Nat → Im → Chunk → Prop
  Kx : Im → Chunk → Prop
  mono : ∀ k I J Z, Le I J → K k I Z → K k J Z
  monox : ∀ I J Z, Le I J → Kx I Z → Kx J Z
structure ItSt where
  it : Iter
  st : Option Nat
section
variable {P : Program} {C : Ctx} {N : Nat} {Q : Exit → AEnv → AHeap → Prop} {σ : AEnv} {H : AHeap}
end
theorem FunH.frzA {G : Gl} {P : Program} {f : FuncId} {ags : List AV} {E : TypeId} {α : Type} [r : Rep α] {l : List α} (h : FunH G P f ags [] (fun r Hs => ∃ u, r = .raw u ∧ Hs = [.own E u l])) : FunA G P f ags (fun r => r = .v l) := fun I vs hG hvs => by
  have hM := h I [] vs hG hvs rfl
  refine ⟨hM.ok, fun w hm => (hM.run w hm).mono ?_⟩
  rintro e w' ⟨v, J, L', rfl, q1, q2, q3, q4, q5, r, Hs', q6, q7, u, rfl, rfl⟩
  obtain ⟨X, R, rfl, q8, q9⟩ := q7
  have q9' : R = [] := q9
  subst q9'
  have q6' : v = u := q6
  subst q6'
  have hle : Le J (J.with X) := Im.with_le fun p hp => q4.sep p (by simpa using hp)
  refine ⟨v, J.with X, rfl, by simpa using q1, q2.trans hle, fun b h0 h1 => ?_, (q4.freeze (i := 0) (c := X) rfl).drop, .v l, freeze_own q8 hle (fun p hp => Im.with_mem (by simpa using q4.nodup) hp), rfl⟩
  cases hj : J.with X b with
  | none => exact absurd hj h1
  | some o =>
    rcases Im.with_some hj with h2 | h2
    · rcases q5 (b, o) (by simpa using h2) with h3 | h3
      · exact h3
      · cases h3
    · exact q3 b h0 (by simp [h2])
end Go.Ab
set_option linter.unusedVariables false
namespace Go.Ab
open Go.Fl Go.RowKit
open Rep (rep)
universe u
class TyI (P : Program) (T : TypeId) (α : outParam Type) (r : outParam (Rep α)) (i : outParam (Inhabited α)) : Prop where h : TyIs P T α
class UnI (P : Program) (T : TypeId) (d : outParam TypeDesc) : Prop where h : P.underlying T = some d
class SlI (P : Program) (T : TypeId) (E : outParam TypeId) (α : outParam Type) (n : outParam Nat) (r : outParam (Rep α)) (i : outParam (Inhabited α)) : Prop where h : SlT P T E α n
class FdI (P : Program) (T : TypeId) (i : Nat) (β : outParam Type) (s : outParam (Rep β)) (γ : outParam Type) (q : outParam (Rep γ)) (m : outParam (Lens β γ)) (f : outParam (β → γ)) : Prop where
  h : ∃ sz, fieldOff P T i = some (m.off, sz + 1, Rep.agg γ) ∧ sz + 1 = Rep.size γ
  e : ∀ x, m.get x = f x
  b : Rep.agg β = true
class LnI {β γ : Type} {s : Rep β} {q : Rep γ} (m : Lens β γ) (f : outParam (β → γ)) (g : outParam (γ → β → β)) : Prop where
  e : ∀ x, m.get x = f x
  u : ∀ y x, m.set y x = g y x
abbrev TyJ (P : Program) (T : TypeId) (α : Type) [r : Rep α] [i : Inhabited α] : Prop := TyI P T α r i
abbrev SlJ (P : Program) (T E : TypeId) (α : Type) (n : Nat) [r : Rep α] [i : Inhabited α] : Prop := SlI P T E α n r i
abbrev FdJ (P : Program) (T : TypeId) (i : Nat) {β γ : Type} [s : Rep β] [q : Rep γ] (m : Lens β γ) (f : β → γ) : Prop := FdI P T i β s γ q m f
theorem FdI.mk' {P : Program} {T : TypeId} {i : Nat} {β : Type} {s : Rep β} {γ : Type} {q : Rep γ} {m : Lens β γ} {f : β → γ} {off sz : Nat} {ag : Bool} (hf : fieldOff P T i = some (off, sz + 1, ag)) (ho : off = m.off) (hz : sz + 1 = Rep.size γ) (hg : ag = Rep.agg γ) (e : ∀ x, m.get x = f x) (b : Rep.agg β = true) : FdI P T i β s γ q m f := by
  subst ho; subst hg
  exact ⟨⟨sz, hf, hz⟩, e, b⟩
@[reducible] def lookW : AEnv → Nat → Option AV
  | [], _ => none
  | (s, a) :: r, t => match Nat.beq s t with | true => some a | false => lookW r t
theorem lookW_eq : ∀ (σ : AEnv) (t : Nat), lookW σ t = lookA σ t
  | [], _ => rfl
  | (s, a) :: r, t => by
    unfold lookW lookA
    cases Nat.beq s t with
    | true => rfl
    | false => exact lookW_eq r t
@[reducible] def nthD : List Oper → Nat → Option Nat
  | [], _ => none
  | o :: _, 0 => o.dst
  | _ :: l, n + 1 => nthD l n
theorem nthD_eq : ∀ (l : List Oper) (n : Nat), nthD l n = (l.toArray[n]?).bind (·.dst)
  | [], _ => by simp [nthD]
  | _ :: _, 0 => by simp [nthD]
  | _ :: l, n + 1 => by
    have := nthD_eq l n
    simp only [nthD]
    simpa using this
@[reducible] def dstW (N : Nat) : List Oper → Bool
  | [] => true
  | o :: l => match o.dst with | none => dstW N l | some d => match Nat.ble (d + 1) N with | true => dstW N l | false => false
theorem dstW_eq {N : Nat} : ∀ {l : List Oper}, dstW N l = true → dstOk N l = true
  | [], _ => by rfl
  | o :: l, h => by
    have ih := dstW_eq (N := N) (l := l)
    unfold dstW at h
    cases ho : o.dst with
    | none => simp_all [dstOk]
    | some d =>
      rw [ho] at h
      simp only at h
      split at h
      · rename_i hb
        have := Nat.le_of_ble_eq_true hb
        simp_all [dstOk]
        try omega
      · cases h
@[reducible] def lenW : List UInt8 → Nat → Bool
  | [], _ => true
  | _ :: l, n + 1 => lenW l n
  | _ :: _, 0 => false
theorem lenW_le : ∀ {l : List UInt8} {n : Nat}, lenW l n = true → l.length ≤ n
  | [], _, _ => by simp
  | _ :: l, n + 1, h => by
    have := lenW_le (l := l) (n := n) h
    simp; omega
  | _ :: _, 0, h => by cases h
class EqS {α : Type u} (x : Option α) (a : outParam α) : Prop where h : x = some a
instance {α : Type u} {a : α} : EqS (no_index (some a)) a := ⟨rfl⟩
class TrB (b : Bool) : Prop where h : b = true
instance : TrB (no_index true) := ⟨rfl⟩
class FaB (b : Bool) : Prop where h : b = false
instance : FaB (no_index false) := ⟨rfl⟩
class AsC (c : Bool) (a : AV) (b : outParam AV) : Prop where h : ∀ I u, c = true → RepV I a u → RepV I b u
instance (priority := low) {c : Bool} {a : AV} : AsC c a a := ⟨fun _ _ _ h => h⟩
instance {c : Bool} {a : AV} : AsC c (.opt c a) a := ⟨fun _ _ e h => h e⟩
class VaQ (a : AV) (α : outParam Type) (r : outParam (Rep α)) (x : outParam α) : Prop where h : ∀ I u, RepV I a u → RepV I (.v x) u
instance {α : Type} {r : Rep α} {x : α} : VaQ (.v x) α r x := ⟨fun _ _ h => h⟩
instance {α : Type} {r : Rep α} {l : List α} : VaQ (.vc l) (List α) inferInstance l := ⟨fun _ u h => ⟨[u], ⟨u, rfl, h.2⟩, rfl⟩⟩
class EvQ (c : Bool) (σ : AEnv) (x : Operand) (a : outParam AV) : Prop where h : ∀ C H, c = true → EvA C σ H x a
class EvV (c : Bool) (σ : AEnv) (x : Operand) (α : outParam Type) (r : outParam (Rep α)) (v : outParam α) : Prop where h : ∀ C H, c = true → EvA C σ H x (.v v)
section
variable {P : Program} {σ : AEnv} {x y z : Operand} {c bo : Bool} {n : Nat}
instance {t : Nat} {a b : AV} [h : EqS (lookW σ t) a] [k : AsC c a b] : EvQ c σ (.tmp t) b := ⟨fun C H e ρ I L hs => by
  obtain ⟨u, h1, h2⟩ := hs.env t a ((lookW_eq σ t).symm.trans h.h)
  exact ⟨u, h1, k.h I u e h2⟩⟩
instance : EvQ c σ (.const (.bool bo)) (.v bo) := ⟨fun _ _ _ => .b⟩
instance [h : TrB (Nat.ble n 9223372036854775807)] : EvQ c σ (.const (.int .i64 (no_index (@OfNat.ofNat Int n _)))) (.v (@OfNat.ofNat Int n _)) := ⟨fun _ _ _ => .i (by
  have := Nat.le_of_ble_eq_true h.h
  simp only [Bool.and_eq_true, decide_eq_true_eq]
  show -9223372036854775808 ≤ (n : Int) ∧ (n : Int) ≤ 9223372036854775807
  omega)⟩
instance {l : List UInt8} [h : TrB (lenW l 10000)] : EvQ c σ (.const (.string (ByteArray.mk (List.toArray l)))) (.v (Str.mk l)) := ⟨fun _ _ _ => .s l (by simp) (Nat.le_trans (lenW_le h.h) (by decide))⟩
instance [h : TrB (Nat.ble n 255)] : EvQ c σ (.const (.int .u8 (no_index (@OfNat.ofNat Int n _)))) (.v (@OfNat.ofNat UInt8 n _)) := ⟨fun _ _ _ => .u8 _ (by
  have := Nat.le_of_ble_eq_true h.h
  show (n : Int) = _
  have : (OfNat.ofNat n : UInt8).toNat = n % 2 ^ 8 := UInt8.toNat_ofNat'
  omega)⟩
instance [h : TrB (Nat.ble n 18446744073709551615)] : EvQ c σ (.const (.int .u64 (no_index (@OfNat.ofNat Int n _)))) (.v (@OfNat.ofNat UInt64 n _)) := ⟨fun _ _ _ => .u64 _ (by
  have := Nat.le_of_ble_eq_true h.h
  show (n : Int) = _
  have : (OfNat.ofNat n : UInt64).toNat = n % 2 ^ 64 := UInt64.toNat_ofNat'
  omega)⟩
instance {a : AV} {α : Type} {r : Rep α} {v : α} [h : EvQ c σ x a] [k : VaQ a α r v] : EvV c σ x α r v := ⟨fun C H e ρ I L hs => by
  obtain ⟨u, h1, h2⟩ := h.h C H e ρ I L hs
  exact ⟨u, h1, k.h I u h2⟩⟩
end
class HoQ (H : AHeap) (w : Value) (B : outParam (Bool × Blk)) (F : outParam (Bool × Blk → AHeap)) : Prop where h : Hole H B F
instance (priority := low) {A B : Bool × Blk} {H : AHeap} {w : Value} {F : Bool × Blk → AHeap} [k : HoQ H w B F] : HoQ (A :: H) w B (fun X => A :: F X) := ⟨.s k.h⟩
instance {g : Bool} {α : Type} {r : Rep α} {a : α} {H : AHeap} {w : Value} : HoQ ((g, .ob w a) :: H) w (g, .ob w a) (fun X => X :: H) := ⟨.z⟩
instance {g : Bool} {α : Type} {r : Rep α} {E : TypeId} {a : List α} {H : AHeap} {w : Value} : HoQ ((g, .own E w a) :: H) w (g, .own E w a) (fun X => X :: H) := ⟨.z⟩
class OpQ (G : Gl) (P : Program) (c : Bool) (o : Oper) (σ : AEnv) (H : AHeap) (r : outParam AV) : Prop where h : ∀ N C, G.p C.I0 → c = true → OpP P N C o σ H (fun a => a = r)
class LdQ (P : Program) (T : TypeId) (a : AV) (H : AHeap) (r : outParam AV) : Prop where h : ∀ N C σ x d ty ps af g, EvA C σ H x a → OpP P N C ⟨d, .load T x, ty, ps, af, g⟩ σ H (fun a => a = r)
class FaQ (P : Program) (T : TypeId) (i : Nat) (a : AV) (r : outParam AV) : Prop where h : ∀ N C σ H x d ty ps af g, EvA C σ H x a → OpP P N C ⟨d, .fieldAddr T x i, ty, ps, af, g⟩ σ H (fun a => a = r)
section
variable {G : Gl} {P : Program} {N : Nat} {c : Bool} {σ : AEnv} {H : AHeap} {d : Option Nat} {ty : TypeId} {ps : String} {af : Array Edge} {g : Option (Nat × Bool)} {x y z : Operand} {T T2 E : TypeId} {bo : Bool} {a b : AV}
instance {α : Type} {r : Rep α} {i : Inhabited α} {a : α} [t : TyI P T α r i] : LdQ P T (.p a) H (.v a) := ⟨fun N C σ x d ty ps af g h => .ldP t.h h rfl⟩
instance {α : Type} {r : Rep α} {i : Inhabited α} {w : Value} {a : α} {bb : Bool} {F : Bool × Blk → AHeap} [t : TyI P T α r i] [k : HoQ H w (bb, .ob w a) F] : LdQ P T (.ln w (Lens.id (α := α))) H (.v a) := ⟨fun N C σ x d ty ps af g h => .ldW t.h h k.h rfl⟩
instance (priority := low) {α β : Type} {r : Rep α} {s : Rep β} {i : Inhabited β} {w : Value} {l : Lens α β} {a : α} {bb : Bool} {F : Bool × Blk → AHeap} {f : α → β} {f' : β → α → α} [t : TyI P T β s i] [n : LnI l f f'] [k : HoQ H w (bb, .ob w a) F] : LdQ P T (.ln w l) H (.v (f a)) := ⟨fun N C σ x d ty ps af g h => .ldF f t.h h k.h n.e rfl⟩
instance {β γ : Type} {s : Rep β} {q : Rep γ} {i : Nat} {a : β} {m : Lens β γ} {f : β → γ} [n : FdI P T i β s γ q m f] : FaQ P T i (.p a) (.p (f a)) := ⟨fun N C σ H x d ty ps af g h => by
  obtain ⟨sz, k, _⟩ := n.h
  exact .fldPF m f k rfl n.e h rfl⟩
instance {β γ : Type} {s : Rep β} {q : Rep γ} {i : Nat} {w : Value} {m : Lens β γ} {f : β → γ} [n : FdI P T i β s γ q m f] : FaQ P T i (.ln w (Lens.id (α := β))) (.ln w m) := ⟨fun N C σ H x d ty ps af g h => by
  obtain ⟨sz, k, _⟩ := n.h
  exact .fldW m k rfl h rfl⟩
instance {α β : Type} {r : Rep α} {s : Rep β} {w : Value} {l : Lens α β} [h : EvQ c σ x (.ln w l)] : OpQ G P c ⟨d, .nilCheck x, ty, ps, af, g⟩ σ H (.ln w l) := ⟨fun N C hG e => .nilCheckL (h.h C H e) rfl⟩
instance [h : EvQ c σ x a] : OpQ G P c ⟨d, .move x, ty, ps, af, g⟩ σ H a := ⟨fun N C hG e => .move (h.h C H e) rfl⟩
instance [h : EvQ c σ x a] : OpQ G P c ⟨d, .assign x, ty, ps, af, g⟩ σ H a := ⟨fun N C hG e => .assign (h.h C H e) rfl⟩
instance {α : Type} {r : Rep α} {n : Nat} {i : Inhabited α} {E : TypeId} [t : SlI P ty E α n r i] : OpQ G P c ⟨d, .assign (.const (.slice none 0 0)), ty, ps, af, g⟩ σ H (.v ([] : List α)) := ⟨fun N C hG e => .assign .nilS rfl⟩
instance [h : EvQ c σ x a] [k : LdQ P T a H b] : OpQ G P c ⟨d, .load T x, ty, ps, af, g⟩ σ H b := ⟨fun N C hG e => k.h N C σ x d ty ps af g (h.h C H e)⟩
instance {i : Nat} [h : EvQ c σ x a] [k : FaQ P T i a b] : OpQ G P c ⟨d, .fieldAddr T x i, ty, ps, af, g⟩ σ H b := ⟨fun N C hG e => k.h N C σ H x d ty ps af g (h.h C H e)⟩
instance {α : Type} {r : Rep α} {l : List α} [h : EvV c σ x (List α) inferInstance l] [u : UnI P T (.slice E)] : OpQ G P c ⟨d, .call ⟨.builtin .len, #[x], #[T]⟩, ty, ps, af, g⟩ σ H (.v (l.length : Int)) := ⟨fun N C hG e => .len u.h (h.h C H e) rfl⟩
instance {s : Str} [h : EvV c σ x Str inferInstance s] [u : UnI P T .string] : OpQ G P c ⟨d, .call ⟨.builtin .len, #[x], #[T]⟩, ty, ps, af, g⟩ σ H (.v (s.l.length : Int)) := ⟨fun N C hG e => .lenS u.h (h.h C H e) rfl⟩
section
variable {m n : Int} [hx : EvV c σ x Int inferInstance m] [hy : EvV c σ y Int inferInstance n]
instance : OpQ G P c ⟨d, .binOp .lss T x y T2, ty, ps, af, g⟩ σ H (.v (decide (m < n))) := ⟨fun N C hG e => .lss (hx.h C H e) (hy.h C H e) rfl⟩
instance : OpQ G P c ⟨d, .binOp .leq T x y T2, ty, ps, af, g⟩ σ H (.v (decide (m ≤ n))) := ⟨fun N C hG e => .leq (hx.h C H e) (hy.h C H e) rfl⟩
instance : OpQ G P c ⟨d, .binOp .gtr T x y T2, ty, ps, af, g⟩ σ H (.v (decide (n < m))) := ⟨fun N C hG e => .gtr (hx.h C H e) (hy.h C H e) rfl⟩
instance : OpQ G P c ⟨d, .binOp .geq T x y T2, ty, ps, af, g⟩ σ H (.v (decide (n ≤ m))) := ⟨fun N C hG e => .geq (hx.h C H e) (hy.h C H e) rfl⟩
instance : OpQ G P c ⟨d, .binOp .eql T x y T2, ty, ps, af, g⟩ σ H (.v (decide (m = n))) := ⟨fun N C hG e => .eqlI (hx.h C H e) (hy.h C H e) rfl⟩
instance : OpQ G P c ⟨d, .binOp .neq T x y T2, ty, ps, af, g⟩ σ H (.v (decide (m ≠ n))) := ⟨fun N C hG e => .neqI (hx.h C H e) (hy.h C H e) rfl⟩
end
section
variable {m n : UInt64} [hx : EvV c σ x UInt64 inferInstance m] [hy : EvV c σ y UInt64 inferInstance n]
instance : OpQ G P c ⟨d, .binOp .eql T x y T2, ty, ps, af, g⟩ σ H (.v (decide (m = n))) := ⟨fun N C hG e => .eql64 (hx.h C H e) (hy.h C H e) rfl⟩
instance : OpQ G P c ⟨d, .binOp .or T x y T2, ty, ps, af, g⟩ σ H (.v (m ||| n)) := ⟨fun N C hG e => .or64 (hx.h C H e) (hy.h C H e) rfl⟩
instance : OpQ G P c ⟨d, .binOp .and T x y T2, ty, ps, af, g⟩ σ H (.v (m &&& n)) := ⟨fun N C hG e => .and64 (hx.h C H e) (hy.h C H e) rfl⟩
instance : OpQ G P c ⟨d, .binOp .sub T x y T2, ty, ps, af, g⟩ σ H (.v (m - n)) := ⟨fun N C hG e => .sub64 (hx.h C H e) (hy.h C H e) rfl⟩
instance : OpQ G P c ⟨d, .binOp .neq T x y T2, ty, ps, af, g⟩ σ H (.v (decide (m ≠ n))) := ⟨fun N C hG e => .neq64 (hx.h C H e) (hy.h C H e) rfl⟩
end
section
variable {m n : UInt8} [hx : EvV c σ x UInt8 inferInstance m] [hy : EvV c σ y UInt8 inferInstance n]
instance : OpQ G P c ⟨d, .binOp .lss T x y T2, ty, ps, af, g⟩ σ H (.v (decide (m < n))) := ⟨fun N C hG e => .lss8 (hx.h C H e) (hy.h C H e) rfl⟩
instance : OpQ G P c ⟨d, .binOp .gtr T x y T2, ty, ps, af, g⟩ σ H (.v (decide (n < m))) := ⟨fun N C hG e => .gtr8 (hx.h C H e) (hy.h C H e) rfl⟩
instance : OpQ G P c ⟨d, .binOp .eql T x y T2, ty, ps, af, g⟩ σ H (.v (decide (m = n))) := ⟨fun N C hG e => .eql8 (hx.h C H e) (hy.h C H e) rfl⟩
instance : OpQ G P c ⟨d, .binOp .and T x y T2, ty, ps, af, g⟩ σ H (.v (m &&& n)) := ⟨fun N C hG e => .and8 (hx.h C H e) (hy.h C H e) rfl⟩
end
section
variable {m n : Str} [hx : EvV c σ x Str inferInstance m] [hy : EvV c σ y Str inferInstance n]
instance : OpQ G P c ⟨d, .binOp .eql T x y T2, ty, ps, af, g⟩ σ H (.v (decide (m = n))) := ⟨fun N C hG e => .eqlS (hx.h C H e) (hy.h C H e) rfl⟩
instance : OpQ G P c ⟨d, .binOp .neq T x y T2, ty, ps, af, g⟩ σ H (.v (decide (m ≠ n))) := ⟨fun N C hG e => .neqS (hx.h C H e) (hy.h C H e) rfl⟩
end
instance [h : EvV c σ x Bool inferInstance bo] : OpQ G P c ⟨d, .unOp .not T x, ty, ps, af, g⟩ σ H (.v (!bo)) := ⟨fun N C hG e => .not (h.h C H e) rfl⟩
instance {v : Bool} [h : EvV c σ x Bool inferInstance bo] [k : EvV (bo == true) σ y Bool inferInstance v] : OpQ G P c ⟨d, .pick x y (.const (.bool false)), ty, ps, af, g⟩ σ H (.v (bo && v)) := ⟨fun N C hG e => .pickAnd (h.h C H e) (fun e => k.h C H (beq_iff_eq.2 e)) rfl⟩
instance {v : Bool} [h : EvV c σ x Bool inferInstance bo] [k : EvV (bo == false) σ y Bool inferInstance v] : OpQ G P c ⟨d, .pick x (.const (.bool true)) y, ty, ps, af, g⟩ σ H (.v (bo || v)) := ⟨fun N C hG e => .pickOr (h.h C H e) (fun e => k.h C H (beq_iff_eq.2 e)) rfl⟩
instance {b : AV} [h : EvQ c σ x (.t2 a b)] : OpQ G P c ⟨d, .extract x 0, ty, ps, af, g⟩ σ H a := ⟨fun N C hG e => .ext2_0 (h.h C H e) rfl⟩
instance {b : AV} [h : EvQ c σ x (.t2 a b)] : OpQ G P c ⟨d, .extract x 1, ty, ps, af, g⟩ σ H b := ⟨fun N C hG e => .ext2_1 (h.h C H e) rfl⟩
instance {b b' : AV} [h : EvQ c σ x (.t3 a b b')] : OpQ G P c ⟨d, .extract x 0, ty, ps, af, g⟩ σ H a := ⟨fun N C hG e => .ext3_0 (h.h C H e) rfl⟩
instance {b b' : AV} [h : EvQ c σ x (.t3 a b b')] : OpQ G P c ⟨d, .extract x 1, ty, ps, af, g⟩ σ H b := ⟨fun N C hG e => .ext3_1 (h.h C H e) rfl⟩
instance {b b' : AV} [h : EvQ c σ x (.t3 a b b')] : OpQ G P c ⟨d, .extract x 2, ty, ps, af, g⟩ σ H b' := ⟨fun N C hG e => .ext3_2 (h.h C H e) rfl⟩
instance {m : Int} {S D : TypeId} {ds : TypeDesc} [h : EvV c σ x Int inferInstance m] [a : UnI P S ds] [b : UnI P D (.int .u64)] : OpQ G P c ⟨d, .convert S D x, ty, ps, af, g⟩ σ H (.v (UInt64.ofInt m)) := ⟨fun N C hG e => .conv64 a.h b.h (h.h C H e) rfl⟩
instance {m : Int} {S D : TypeId} {ds : TypeDesc} [h : EvV c σ x Int inferInstance m] [a : UnI P S ds] [b : UnI P D (.int .u8)] : OpQ G P c ⟨d, .convert S D x, ty, ps, af, g⟩ σ H (.v (UInt8.ofInt m)) := ⟨fun N C hG e => .conv8 a.h b.h (h.h C H e) rfl⟩
end
theorem OpP.to {P : Program} {C : Ctx} {N : Nat} {o : Oper} {σ : AEnv} {H : AHeap} {r : AV} {K : AV → Prop} (h : OpP P N C o σ H (fun a => a = r)) (k : K r) : OpP P N C o σ H K := fun ρ I L hs =>
  OpX.monoLe (h ρ I L hs) fun v J X hle ⟨h1, a, h2, h3⟩ => ⟨h1, a, h2, h3 ▸ k⟩
class StQ (G : Gl) (P : Program) (ops : List Oper) (o : Oper) (σ : AEnv) (H : AHeap) (σ' : outParam AEnv) (H' : outParam AHeap) : Prop where
  h : ∀ N C Q rest, G.p C.I0 → wpB P C N ops.toArray Q rest σ' H' → wpB P C N ops.toArray Q (o :: rest) σ H
class SoQ (P : Program) (T : TypeId) (a b : AV) (H : AHeap) (H' : outParam AHeap) : Prop where
  h : ∀ N C σ x y ty ps af g KH, EvA C σ H x a → EvA C σ H y b → KH .any H' → OpH P C N ⟨none, .store T x y, ty, ps, af, g⟩ σ H KH
section
variable {G : Gl} {P : Program} {ops : List Oper} {Q : Exit → AEnv → AHeap → Prop} {rest : List Oper} {σ : AEnv} {H H' : AHeap} {ps : String} {af : Array Edge} {x y : Operand} {T ty : TypeId}
instance {d : Nat} {op : Op} {r : AV} [h : OpQ G P true ⟨some d, op, ty, ps, af, none⟩ σ H r] : StQ G P ops ⟨some d, op, ty, ps, af, none⟩ σ H ((d, r) :: σ) H := ⟨fun N C Q rest hG k => .p ((h.h N C hG rfl).to k)⟩
instance {α : Type} {r : Rep α} {i : Inhabited α} {w : Value} {a v : α} {bb : Bool} {F : Bool × Blk → AHeap} [t : TyI P T α r i] [k : HoQ H w (bb, .ob w a) F] : SoQ P T (.ln w (Lens.id (α := α))) (.v v) H (F (bb, .ob w v)) := ⟨fun N C σ x y ty ps af g KH hx hy q => .stW t.h hx hy k.h q⟩
instance (priority := low) {α β : Type} {r : Rep α} {s : Rep β} {i : Inhabited β} {w : Value} {l : Lens α β} {a : α} {v : β} {bb : Bool} {F : Bool × Blk → AHeap} {f : α → β} {f' : β → α → α} [t : TyI P T β s i] [n : LnI l f f'] [k : HoQ H w (bb, .ob w a) F] : SoQ P T (.ln w l) (.v v) H (F (bb, .ob w (f' v a))) := ⟨fun N C σ x y ty ps af g KH hx hy q => .stF f' t.h hx hy k.h n.u q⟩
instance {a : AV} {α : Type} {r : Rep α} {v : α} [h : EvQ true σ x a] [k : EvV true σ y α r v] [s : SoQ P T a (.v v) H H'] : StQ G P ops ⟨none, .store T x y, ty, ps, af, none⟩ σ H σ H' := ⟨fun N C Q rest hG q => .n (s.h N C σ x y ty ps af none _ (h.h C H rfl) (k.h C H rfl) q)⟩
instance {d : Nat} {op : Op} {j : Nat} {want b : Bool} {dj : Nat} {r : AV} [hj : EqS (nthD ops j) dj] [hb : EvV true σ (.tmp dj) Bool inferInstance b] [h : OpQ G P (b == want) ⟨some d, op, ty, ps, af, none⟩ σ H r] :
    StQ G P ops ⟨some d, op, ty, ps, af, some (j, want)⟩ σ H ((d, .opt (b == want) r) :: σ) H := ⟨fun N C Q rest hG k => .go dj ((nthD_eq ops j).symm.trans hj.h) (hb.h C H rfl) (fun e => h.h N C hG (beq_iff_eq.2 e)) k⟩
end
class AsQ (c : Bool) (σ : AEnv) (xs : List Operand) (ags : outParam (List AV)) : Prop where h : ∀ C H, c = true → EvAs C σ H xs ags
class PlQ (a : AV) (b : outParam AV) : Prop where h : ∀ I u, RepV I a u → RepV I b u
instance (priority := low) {a : AV} : PlQ a a := ⟨fun _ _ h => h⟩
class ElQ (c : Bool) (σ : AEnv) (i : Nat) (ps : List (Nat × Operand)) (α : outParam Type) (r : outParam (Rep α)) (l : outParam (List α)) : Prop where h : ∀ C H, c = true → Elems C σ H i ps l
class SrQ (P : Program) (U : TypeId) (σ : AEnv) (H : AHeap) (y : Operand) (α : Type) (r : Rep α) (m : outParam (List α)) : Prop where
  h : ∀ C, SrcA P C σ H y m
  u : (∃ E2, P.underlying U = some (.slice E2)) ∨ P.underlying U = some .string
section
variable {G : Gl} {P : Program} {C : Ctx} {N : Nat} {c : Bool} {ops : List Oper} {Q : Exit → AEnv → AHeap → Prop} {rest : List Oper} {σ : AEnv} {H : AHeap} {d : Nat} {ps : String} {af : Array Edge} {x y : Operand} {T T2 E U ty : TypeId} {m n : Int}
instance : AsQ c σ [] [] := ⟨fun _ _ _ => .nil⟩
instance {a b : AV} {xs : List Operand} {ags : List AV} [h : EvQ c σ x a] [p : PlQ a b] [k : AsQ c σ xs ags] : AsQ c σ (x :: xs) (b :: ags) := ⟨fun C H e => .cons (fun ρ I L hs => by
  obtain ⟨u, h1, h2⟩ := h.h C H e ρ I L hs
  exact ⟨u, h1, p.h I u h2⟩) (k.h C H e)⟩
instance {α : Type} {r : Rep α} {i : Nat} {v : α} [h : EvV c σ x α r v] : ElQ c σ i [(i, x)] α r [v] := ⟨fun C H e => .cons (h.h C H e) .nil⟩
instance {α : Type} {r : Rep α} {i : Nat} {v : α} {q : Nat × Operand} {l : List (Nat × Operand)} {vs : List α} [h : EvV c σ x α r v] [k : ElQ c σ (i + 1) (q :: l) α r vs] : ElQ c σ i ((i, x) :: q :: l) α r (v :: vs) := ⟨fun C H e => .cons (h.h C H e) (k.h C H e)⟩
instance {α : Type} {r : Rep α} {t : Nat} {w : Value} {m : List α} {bb : Bool} {E' : TypeId} {F : Bool × Blk → AHeap} [a : EqS (lookW σ t) (.raw w)] [k : HoQ H w (bb, .own E' w m) F] [u : UnI P U (.slice E)] : SrQ P U σ H (.tmp t) α r m := ⟨fun C => .own ((lookW_eq σ t).symm.trans a.h) k.h, .inl ⟨_, u.h⟩⟩
instance {α : Type} {r : Rep α} {m : List α} [a : EvV true σ y (List α) inferInstance m] [u : UnI P U (.slice E)] : SrQ P U σ H y α r m := ⟨fun C => .v (a.h C H rfl), .inl ⟨_, u.h⟩⟩
theorem wpB.ad [hx : EvV true σ x Int inferInstance m] [hy : EvV true σ y Int inferInstance n] (h1 : -9223372036854775808 ≤ m + n) (h2 : m + n ≤ 9223372036854775807) (k : wpB P C N ops.toArray Q rest ((d, .v (m + n)) :: σ) H) :
    wpB P C N ops.toArray Q (⟨some d, .binOp .add T x y T2, ty, ps, af, none⟩ :: rest) σ H := .p (.add (hx.h C H rfl) (hy.h C H rfl) h1 h2 k)
theorem wpB.sb [hx : EvV true σ x Int inferInstance m] [hy : EvV true σ y Int inferInstance n] (h1 : -9223372036854775808 ≤ m - n) (h2 : m - n ≤ 9223372036854775807) (k : wpB P C N ops.toArray Q rest ((d, .v (m - n)) :: σ) H) :
    wpB P C N ops.toArray Q (⟨some d, .binOp .sub T x y T2, ty, ps, af, none⟩ :: rest) σ H := .p (.sub (hx.h C H rfl) (hy.h C H rfl) h1 h2 k)
theorem wpB.ix {α : Type} {r : Rep α} {i : Inhabited α} {l : List α} [u : UnI P T (.slice E)] [t : TyI P E α r i] [hx : EvV true σ x (List α) inferInstance l] [hy : EvV true σ y Int inferInstance n] (h0 : 0 ≤ n) (h1 : n < l.length)
    (k : wpB P C N ops.toArray Q rest ((d, .p (l[n.toNat]'(by omega))) :: σ) H) : wpB P C N ops.toArray Q (⟨some d, .indexAddr T x y, ty, ps, af, none⟩ :: rest) σ H := .p (.idx t.h u.h (hx.h C H rfl) (hy.h C H rfl) h0 h1 k)
theorem wpB.k {f : FuncId} {args : Array Operand} {tys : Array TypeId} {ags : List AV} {r : AV} (hG : G.p C.I0) [hv : AsQ true σ args.toList ags] (h : FunA G P f ags (fun x => x = r)) (k : wpB P C N ops.toArray Q rest ((d, r) :: σ) H) :
    wpB P C N ops.toArray Q (⟨some d, .call ⟨.value (.func f), args, tys⟩, ty, ps, af, none⟩ :: rest) σ H := .p (.call1 hG h (hv.h C H rfl) k)
theorem wpB.km {f : FuncId} {args : Array Operand} {tys : Array TypeId} {ags : List AV} {post : AV → List Blk → Prop} {b : Bool} {B : Blk} {F : Bool × Blk → AHeap} (hG : G.p C.I0) [hv : AsQ true σ args.toList ags] (h : FunH G P f ags [B] post) (hH : Hole H (b, B) F) (hs : ∀ r Hs, post r Hs → ∃ B', Hs = [B'])
    (k : ∀ r B', post r [B'] → wpB P C N ops.toArray Q rest ((d, r) :: σ) (F (b, B'))) : wpB P C N ops.toArray Q (⟨some d, .call ⟨.value (.func f), args, tys⟩, ty, ps, af, none⟩ :: rest) σ H := .h (.callM hG h hH (hv.h C H rfl) hs k)
theorem wpB.k0 {f : FuncId} {args : Array Operand} {tys : Array TypeId} {ags : List AV} {post : AV → List Blk → Prop} (hG : G.p C.I0) [hv : AsQ true σ args.toList ags] (h : FunH G P f ags [] post)
    (k : ∀ r Hs, post r Hs → wpB P C N ops.toArray Q rest ((d, r) :: σ) (Hs.map (fun B => (true, B)) ++ H)) : wpB P C N ops.toArray Q (⟨some d, .call ⟨.value (.func f), args, tys⟩, ty, ps, af, none⟩ :: rest) σ H := .h (.call0 hG h (hv.h C H rfl) k)
theorem wpB.ap {α : Type} {r : Rep α} {i : Inhabited α} {by_ t : Nat} {w : Value} {l m : List α} {F : Bool × Blk → AHeap} [st : SlI P T E α by_ r i] [hx : EqS (lookW σ t) (.raw w)] [hH : HoQ H w (true, .own E w l) F] [hy : SrQ P U σ H y α r m] (hb : (l.length + m.length) * by_ ≤ 140737488355328) (hn : l.length + m.length ≤ 9223372036854775807)
    (k : ∀ w', wpB P C N ops.toArray Q rest ((d, .raw w') :: σ) (F (true, .own E w' (l ++ m)))) : wpB P C N ops.toArray Q (⟨some d, .call ⟨.builtin .append, #[.tmp t, y], #[T, U]⟩, ty, ps, af, none⟩ :: rest) σ H :=
  .h (.append st.h hy.u ((lookW_eq σ t).symm.trans hx.h) hH.h (hy.h C) hb hn k rfl)
theorem wpB.bs {α : Type} {r : Rep α} {i : Inhabited α} {k : Nat} {l : List α} {parts : Array (Nat × Operand)} [u : UnI P T (.slice E)] [t : TyI P E α r i] [hp : ElQ true σ 0 parts.toList α r l] (hn : l.length = k) (hb : k * Rep.size α ≤ 16777216)
    (q : ∀ b, wpB P C N ops.toArray Q rest ((d, .raw (slc b 0 k k)) :: σ) ((true, .own E (slc b 0 k k) l) :: H)) : wpB P C N ops.toArray Q (⟨some d, .buildSlice T k parts, ty, ps, af, none⟩ :: rest) σ H := .h (.buildSlice t.h u.h (hp.h C H rfl) hn hb q)
end
inductive It where
  | a (c : Code) (Q : Exit → AEnv → AHeap → Prop)
  | b (ops : List Oper) (Q : Exit → AEnv → AHeap → Prop) (l : List Oper)
  | q (Q : Exit → AEnv → AHeap → Prop) (e : Exit)
@[reducible] def It.G (P : Program) (C : Ctx) (N : Nat) : It → AEnv → AHeap → Prop
  | .a c Q, σ, H => wpA P C N c Q σ H
  | .b ops Q l, σ, H => wpB P C N ops.toArray Q l σ H
  | .q Q e, σ, H => Q e σ H
class Rn (G : Gl) (P : Program) (C : Ctx) (N : Nat) (n : Nat) (i : It) (σ : AEnv) (H : AHeap) (A : outParam Prop) : Prop where h : G.p C.I0 → A → i.G P C N σ H
section
variable {G : Gl} {P : Program} {C : Ctx} {N n : Nat} {A : Prop} {ops : List Oper} {Q Q0 : Exit → AEnv → AHeap → Prop} {l : List Oper} {σ : AEnv} {H : AHeap} {c x y : Code} {e : Exit} {id i : Nat}
instance (priority := high) : Rn G P C N 0 (.a c Q) σ H (wpA P C N c Q σ H) := ⟨fun _ h => h⟩
instance (priority := high) : Rn G P C N 0 (.b ops Q l) σ H (wpB P C N ops.toArray Q l σ H) := ⟨fun _ h => h⟩
instance (priority := high) : Rn G P C N 0 (.q Q e) σ H (Q e σ H) := ⟨fun _ h => h⟩
instance [k : Rn G P C N n (.a x (thenA (wpA P C N y Q) Q)) σ H A] : Rn G P C N (n + 1) (.a (.seq x y) Q) σ H A := ⟨fun g h => .seq (k.h g h)⟩
instance [hd : TrB (dstW N l)] [k : Rn G P C N n (.b l Q l) σ H A] : Rn G P C N (n + 1) (.a (.region id l.toArray false) Q) σ H A := ⟨fun g h => .region (dstW_eq hd.h) (k.h g h)⟩
instance [k : Rn G P C N n (.q Q .normal) σ H A] : Rn G P C N (n + 1) (.a .skip Q) σ H A := ⟨fun g h => .skip (k.h g h)⟩
instance [k : Rn G P C N n (.q Q .ret) σ H A] : Rn G P C N (n + 1) (.a .ret Q) σ H A := ⟨fun g h => .ret (k.h g h)⟩
instance [k : Rn G P C N n (.q Q (.exit id)) σ H A] : Rn G P C N (n + 1) (.a (.exit id) Q) σ H A := ⟨fun g h => .exit (k.h g h)⟩
instance [k : Rn G P C N n (.a c (blockA id Q)) σ H A] : Rn G P C N (n + 1) (.a (.block id c) Q) σ H A := ⟨fun g h => .block (k.h g h)⟩
instance [k : Rn G P C N n (.q Q .normal) σ H A] : Rn G P C N (n + 1) (.b ops Q []) σ H A := ⟨fun g h => .nil (k.h g h)⟩
instance {o : Oper} {σ' : AEnv} {H' : AHeap} [s : StQ G P ops o σ H σ' H'] [k : Rn G P C N n (.b ops Q l) σ' H' A] : Rn G P C N (n + 1) (.b ops Q (o :: l)) σ H A := ⟨fun g h => s.h N C Q l g (k.h g h)⟩
instance [k : Rn G P C N (n + 1) (.a y Q) σ H A] : Rn G P C N (n + 1) (.q (thenA (wpA P C N y Q) Q0) .normal) σ H A := ⟨fun g h => k.h g h⟩
instance {X : AEnv → AHeap → Prop} [k : Rn G P C N (n + 1) (.q Q (.exit id)) σ H A] : Rn G P C N (n + 1) (.q (thenA X Q) (.exit id)) σ H A := ⟨fun g h => k.h g h⟩
instance [k : Rn G P C N (n + 1) (.q Q .normal) σ H A] : Rn G P C N (n + 1) (.q (blockA id Q) .normal) σ H A := ⟨fun g h => k.h g h⟩
instance [k : Rn G P C N (n + 1) (.q Q .normal) σ H A] : Rn G P C N (n + 1) (.q (blockA i Q) (.exit i)) σ H A := ⟨fun g h => by show blockA i Q (.exit i) σ H; simp only [blockA, Nat.beq_refl, cond_true]; exact k.h g h⟩
instance (priority := low) [hi : FaB (Nat.beq i id)] [k : Rn G P C N (n + 1) (.q Q (.exit i)) σ H A] : Rn G P C N (n + 1) (.q (blockA id Q) (.exit i)) σ H A := ⟨fun g h => by
  have hi : Nat.beq i id = false := hi.h
  show blockA id Q (.exit i) σ H; simp only [blockA, hi, cond_false]; exact k.h g h⟩
instance {z : Operand} {p : Prop} {_ : Decidable p} [hc : EvV true σ z Bool inferInstance (decide p)] : Rn G P C N (n + 1) (.a (.cond z x y) Q) σ H ((p → wpA P C N x Q σ H) ∧ (¬ p → wpA P C N y Q σ H)) := ⟨fun g h => .condP (hc.h C H rfl) h.1 h.2⟩
instance {α : Type} {r : Rep α} {j : Inhabited α} {d : Nat} {T ty : TypeId} {ps : String} {af : Array Edge} [t : TyI P T α r j] :
    Rn G P C N (n + 1) (.b ops Q (⟨some d, .alloc T, ty, ps, af, none⟩ :: l)) σ H (∀ b, wpB P C N ops.toArray Q l ((d, .ln (ptr b 0) (Lens.id (α := α))) :: σ) ((true, .ob (ptr b 0) (default : α)) :: H)) := ⟨fun g h => .h (.alloc t.h h)⟩
instance {α : Type} {r : Rep α} {a : α} {d : Nat} {T ty : TypeId} {ps : String} {af : Array Edge} {z : Operand} [hx : EvV true σ z α r a] :
    Rn G P C N (n + 1) (.b ops Q (⟨some d, .box T z, ty, ps, af, none⟩ :: l)) σ H (∀ b, wpB P C N ops.toArray Q l ((d, .ln (ptr b 0) (Lens.id (α := α))) :: σ) ((true, .ob (ptr b 0) a) :: H)) := ⟨fun g h => .h (.box (hx.h C H rfl) h)⟩
theorem wpA.q (n : Nat) (hG : G.p C.I0) {A : Prop} [h : Rn G P C N n (.a c Q) σ H A] (k : A) : wpA P C N c Q σ H := h.h hG k
theorem wpB.q (n : Nat) (hG : G.p C.I0) {A : Prop} [h : Rn G P C N n (.b ops Q l) σ H A] (k : A) : wpB P C N ops.toArray Q l σ H := h.h hG k
end
end Go.Ab
set_option maxRecDepth 1000000
namespace Go.Proofs.YtpkdbddhekffgaaGreatDoor
open Go.Ab Go.Mac
theorem ty3 : TyIs Tryz.prog 3 Int := .of (by kernel_rfl) (by kernel_rfl) (by kernel_rfl) (by decide)
theorem ty5 : TyIs Tryz.prog 5 UInt8 := .of (by kernel_rfl) (by kernel_rfl) (by kernel_rfl) (by decide)
theorem ty9 : TyIs Tryz.prog 9 Str := .of (by kernel_rfl) (by kernel_rfl) (by kernel_rfl) (by decide)
theorem ty22 : TyIs Tryz.prog 22 UInt64 := .of (by kernel_rfl) (by kernel_rfl) (by kernel_rfl) (by decide)
theorem ty24 : TyIs Tryz.prog 24 G_api_Predicate := .of (by kernel_rfl) (by kernel_rfl) (by kernel_rfl) (by decide)
theorem ty25 : TyIs Tryz.prog 25 (List UInt8) := .of (by kernel_rfl) (by kernel_rfl) (by kernel_rfl) (by decide)
theorem ty26 : TyIs Tryz.prog 26 (List Int) := .of (by kernel_rfl) (by kernel_rfl) (by kernel_rfl) (by decide)
theorem ty27 : TyIs Tryz.prog 27 Int := .of (by kernel_rfl) (by kernel_rfl) (by kernel_rfl) (by decide)
theorem ty47 : TyIs Tryz.prog 47 G_macaroonmade_Deck := .of (by kernel_rfl) (by kernel_rfl) (by kernel_rfl) (by decide)
theorem ty54 : TyIs Tryz.prog 54 G_predicate_reader := .of (by kernel_rfl) (by kernel_rfl) (by kernel_rfl) (by decide)
theorem ty58 : TyIs Tryz.prog 58 G_macaroonref06_Reader := .of (by kernel_rfl) (by kernel_rfl) (by kernel_rfl) (by decide)
theorem st25 : SlT Tryz.prog 25 5 UInt8 1 := ⟨.of (by kernel_rfl), ty5⟩
theorem st68 : SlT Tryz.prog 68 9 Str 16 := ⟨.of (by kernel_rfl), ty9⟩
instance : TyJ Tryz.prog 3 Int := ⟨ty3⟩
instance : UnI Tryz.prog 3 (.int .i64) := ⟨Tryz.underlying3⟩
instance : TyJ Tryz.prog 5 UInt8 := ⟨ty5⟩
instance : UnI Tryz.prog 5 (.int .u8) := ⟨Tryz.underlying5⟩
instance : TyJ Tryz.prog 9 Str := ⟨ty9⟩
instance : UnI Tryz.prog 9 (.string) := ⟨Tryz.underlying9⟩
instance : TyJ Tryz.prog 22 UInt64 := ⟨ty22⟩
instance : UnI Tryz.prog 22 (.int .u64) := ⟨Tryz.underlying22⟩
instance : TyJ Tryz.prog 24 G_api_Predicate := ⟨ty24⟩
instance : FdJ Tryz.prog 24 0 G_api_Predicate.l0 (fun x => x.Kind) := .mk' fd24_0 rfl rfl rfl (fun _ => rfl) rfl
instance : LnI G_api_Predicate.l0 (fun x => x.Kind) (fun y x => { x with Kind := y }) := ⟨fun _ => rfl, fun _ _ => rfl⟩
instance : FdJ Tryz.prog 24 1 G_api_Predicate.l1 (fun x => x.Mask) := .mk' fd24_1 rfl rfl rfl (fun _ => rfl) rfl
instance : LnI G_api_Predicate.l1 (fun x => x.Mask) (fun y x => { x with Mask := y }) := ⟨fun _ => rfl, fun _ _ => rfl⟩
instance : FdJ Tryz.prog 24 2 G_api_Predicate.l2 (fun x => x.From) := .mk' fd24_2 rfl rfl rfl (fun _ => rfl) rfl
instance : LnI G_api_Predicate.l2 (fun x => x.From) (fun y x => { x with From := y }) := ⟨fun _ => rfl, fun _ _ => rfl⟩
instance : FdJ Tryz.prog 24 3 G_api_Predicate.l3 (fun x => x.To) := .mk' fd24_3 rfl rfl rfl (fun _ => rfl) rfl
instance : LnI G_api_Predicate.l3 (fun x => x.To) (fun y x => { x with To := y }) := ⟨fun _ => rfl, fun _ _ => rfl⟩
instance : FdJ Tryz.prog 24 4 G_api_Predicate.l4 (fun x => x.Name) := .mk' fd24_4 rfl rfl rfl (fun _ => rfl) rfl
instance : LnI G_api_Predicate.l4 (fun x => x.Name) (fun y x => { x with Name := y }) := ⟨fun _ => rfl, fun _ _ => rfl⟩
instance : FdJ Tryz.prog 24 5 G_api_Predicate.l5 (fun x => x.Number) := .mk' fd24_5 rfl rfl rfl (fun _ => rfl) rfl
instance : LnI G_api_Predicate.l5 (fun x => x.Number) (fun y x => { x with Number := y }) := ⟨fun _ => rfl, fun _ _ => rfl⟩
instance : TyJ Tryz.prog 25 (List UInt8) := ⟨ty25⟩
instance : UnI Tryz.prog 25 (.slice 5) := ⟨Tryz.underlying25⟩
instance : SlJ Tryz.prog 25 5 UInt8 1 := ⟨st25⟩
instance : UnI Tryz.prog 26 (.slice 3) := ⟨Tryz.underlying26⟩
instance : TyJ Tryz.prog 27 Int := ⟨ty27⟩
instance : UnI Tryz.prog 35 (.slice 25) := ⟨Tryz.underlying35⟩
instance : FdJ Tryz.prog 54 1 G_predicate_reader.l1 (fun x => x.used) := .mk' fd54_1 rfl rfl rfl (fun _ => rfl) rfl
instance : LnI G_predicate_reader.l1 (fun x => x.used) (fun y x => { x with used := y }) := ⟨fun _ => rfl, fun _ _ => rfl⟩
instance : FdJ Tryz.prog 54 2 G_predicate_reader.l2 (fun x => x.e) := .mk' fd54_2 rfl rfl rfl (fun _ => rfl) rfl
instance : LnI G_predicate_reader.l2 (fun x => x.e) (fun y x => { x with e := y }) := ⟨fun _ => rfl, fun _ _ => rfl⟩
instance : FdJ Tryz.prog 58 1 G_macaroonref06_Reader.l1 (fun x => x.Used) := .mk' fd58_1 rfl rfl rfl (fun _ => rfl) rfl
instance : LnI G_macaroonref06_Reader.l1 (fun x => x.Used) (fun y x => { x with Used := y }) := ⟨fun _ => rfl, fun _ _ => rfl⟩
instance : FdJ Tryz.prog 58 2 G_macaroonref06_Reader.l2 (fun x => x.E) := .mk' fd58_2 rfl rfl rfl (fun _ => rfl) rfl
instance : LnI G_macaroonref06_Reader.l2 (fun x => x.E) (fun y x => { x with E := y }) := ⟨fun _ => rfl, fun _ _ => rfl⟩
instance : UnI Tryz.prog 67 (.int .u64) := ⟨Tryz.underlying67⟩
instance : UnI Tryz.prog 68 (.slice 9) := ⟨Tryz.underlying68⟩
instance : SlJ Tryz.prog 68 9 Str 16 := ⟨st68⟩
end Go.Proofs.YtpkdbddhekffgaaGreatDoor
set_option maxRecDepth 1000000
set_option linter.unusedVariables false
namespace Go.Mac
open Go.Fl Go.Ab Go.Sha
end Go.Mac
namespace Go.Proofs.YtpkdbddhekffgaaGreatDoor
open Go.Fl Go.Ab Go.Sha Go.Mac
def bitsA : Arr 8 Int := ⟨[0, 64, 32, 7, 0, 0, 0, 0], rfl⟩
def wordsA : Arr 8 Str := ⟨[⟨[]⟩, ⟨[122, 111, 110, 101]⟩, ⟨[108, 105, 110, 101]⟩, ⟨[100, 97, 121, 115]⟩, ⟨[116, 105, 109, 101]⟩, ⟨[100, 97, 105, 108, 121]⟩, ⟨[104, 111, 108, 100, 101, 114]⟩, ⟨[114, 105, 100, 101, 115]⟩], rfl⟩
structure GlP (I : Im) : Prop where
  bits : Cells I 0 0 (bitsA.l.map i64)
  words : Cells I 1 0 (wordsA.l.map fun s => .string ⟨s.l.toArray⟩)
  maxLen : ∃ m, Cells I 2 0 [.int .i64 m]
  pow10 : ∃ e fr, I 5 = some (.cells (Lib.pow10Tab.map fun z => Value.int .u64 z).toArray e fr)
  errS : ∃ t p, Cells I 3 0 [.iface t p]
  errR : ∃ t p, Cells I 4 0 [.iface t p]
theorem GlP.mono {I J : Im} (hle : Le I J) (h : GlP I) : GlP J := by
  obtain ⟨h1, h2, ⟨m, h3⟩, ⟨e, fr, h4⟩, ⟨t, p, h5⟩, ⟨t2, p2, h6⟩⟩ := h
  exact ⟨h1.mono hle, h2.mono hle, ⟨m, h3.mono hle⟩, ⟨e, fr, hle _ _ h4⟩, ⟨t, p, h5.mono hle⟩, ⟨t2, p2, h6.mono hle⟩⟩
def gl : Gl := ⟨GlP, fun hle h => h.mono hle⟩
theorem gl_predicate_bits (I : Im) (h : gl.p I) : RepV I (.p bitsA) (ptr 0 0) := ⟨0, 0, _, rfl, (by repeat' (first | exact rfl | (refine ⟨[_], _, rfl, ⟨rfl, by decide, by decide⟩, ?_⟩))), h.bits⟩
theorem gl_predicate_words (I : Im) (h : gl.p I) : RepV I (.p wordsA) (ptr 1 0) := ⟨1, 0, _, rfl, (by repeat' (first | exact rfl | (refine ⟨[_], _, rfl, ⟨⟨_, rfl, rfl⟩, by decide⟩, ?_⟩))), h.words⟩
theorem gl_tab (I : Im) (w : World) (h : gl.p I) (hm : Mem I [] w) : Lib.TabIs Tryz.prog w "internal/strconv.uint64pow10" .u64 Lib.pow10Tab := by
  obtain ⟨e, fr, h4⟩ := h.pow10
  have h5 := hm.im _ _ h4
  have h6 : Tryz.prog.globalNamed "internal/strconv.uint64pow10" = some 5 := by kernel_rfl
  unfold Lib.TabIs World.var?
  rw [h6, Option.bind_some, h5]
end Go.Proofs.YtpkdbddhekffgaaGreatDoor
set_option maxRecDepth 1000000
set_option synthInstance.maxSize 1000000
set_option synthInstance.maxHeartbeats 10000000
set_option linter.unusedVariables false
set_option linter.unusedSimpArgs false
namespace Go.Proofs.YtpkdbddhekffgaaGreatDoor
open Go.Fl Go.Ab Go.Mac
theorem u8_or_zero (a b : UInt8) : (a ||| b = 0) ↔ (a = 0 ∧ b = 0) := by
  rw [← UInt8.toBitVec_inj, ← UInt8.toBitVec_inj, ← UInt8.toBitVec_inj]
  simp only [UInt8.toBitVec_or, UInt8.toBitVec_ofNat]
  exact BitVec.or_eq_zero_iff
theorem u8_xor_zero (a b : UInt8) : (a ^^^ b = 0) ↔ a = b := by
  rw [← UInt8.toBitVec_inj, ← UInt8.toBitVec_inj]
  simp only [UInt8.toBitVec_xor, UInt8.toBitVec_ofNat]
  exact BitVec.xor_eq_zero_iff
theorem take_eq_succ {α : Type} (a b : List α) (k : Nat) (h1 : k < a.length) (h2 : k < b.length) : (a.take (k + 1) = b.take (k + 1)) ↔ (a.take k = b.take k ∧ a[k] = b[k]) := by
  rw [List.take_succ_eq_append_getElem h1, List.take_succ_eq_append_getElem h2]
  constructor
  · intro h
    have h3 := List.append_inj h (by simp; omega)
    exact ⟨h3.1, by simpa using h3.2⟩
  · rintro ⟨h3, h4⟩
    rw [h3, h4]
theorem Same_c (a b : List UInt8) : FunA gl Tryz.prog 6 [.v a, .v b] (fun r => r = .v (decide (a = b))) := by
  refine FunA.intro Tryz.func6 rfl (by kernel_rfl) 26 rfl rfl _ rfl fun C hC hG => ?_
  refine .q 6 hG ?_ -- @ macaroonref01.Same s s 0.0 s s s
  refine .lenLe 0 rfl fun hl0 => ?_
  refine .q 8 hG ⟨fun hc10 => ?_, fun hc10 => ?_⟩ -- @ macaroonref01.Same s 1.0 1.1 1.2 1.3 1.4 s c10
  · refine .q 5 hG ?_ -- @ macaroonref01.Same s s 2.0 s s
    refine ⟨_, .r1 rfl (.tmp rfl), ?_⟩
    exact congrArg AV.v (by rw [eq_comm, decide_eq_false_iff_not]; rintro rfl; exact hc10 rfl)
  · refine .q 7 hG ?_ -- @ macaroonref01.Same s s s s 3.0 s s
    refine .loopR (α := Nat) [(0, _), (1, _)] (fun k R => (5, .v (k : Int)) :: R) (fun k => []) (fun k => k ≤ a.length ∧ a.take k = b.take k) (fun k => a.length - k) (0) (.cons rfl (.cons rfl (.nil _))) ?_ (.cons rfl (.cons rfl (.cons rfl (.nil _)))) (rfl) fun k hF => ?_
    · simp
    obtain ⟨h1, h2⟩ := hF
    refine .q 9 hG ⟨fun hc14 => ?_, fun hc14 => ?_⟩ -- @ macaroonref01.Same s s s 4.0 4.1 4.2 4.3 s c14
    · refine .q 4 hG ?_ -- @ macaroonref01.Same s s s s
      refine .draw (by kernel_rfl) 9 [[], [], [(17, 0), (18, 1)], [(19, 2)], [], [], [(21, 4), (22, 5)], [(23, 6)], [(20, 3), (24, 7)]] rfl (by kernel_rfl) rfl ?_
      refine ⟨_, OpP.move (.t rfl) rfl, ?_⟩
      refine ⟨_, OpP.move (.t rfl) rfl, ?_⟩
      refine ⟨_, OpP.idx ty5 Tryz.underlying25 (.t rfl) (.t rfl) (by first | omega | (simp; done) | (simp; omega) | (simp at *; omega)) (by first | omega | (simp; done) | (simp; omega) | (simp at *; omega)) rfl, ?_⟩
      refine ⟨_, OpP.ldP ty5 (.t rfl) rfl, ?_⟩
      refine ⟨_, OpP.move (.t rfl) rfl, ?_⟩
      refine ⟨_, OpP.move (.t rfl) rfl, ?_⟩
      refine ⟨_, OpP.idx ty5 Tryz.underlying25 (.t rfl) (.t rfl) (by first | omega | (simp; done) | (simp; omega) | (simp at *; omega)) (by first | omega | (simp; done) | (simp; omega) | (simp at *; omega)) rfl, ?_⟩
      refine ⟨_, OpP.ldP ty5 (.t rfl) rfl, ?_⟩
      refine ⟨_, OpP.neq8 (.t rfl) (.t rfl) rfl, ?_⟩
      show wpB _ _ _ _ _ [] ((25, _) :: (24, _) :: (23, _) :: (22, _) :: (21, _) :: (20, _) :: (19, _) :: (18, _) :: (17, _) :: _) _
      refine .q 2 hG ⟨fun hc25 => ?_, fun hc25 => ?_⟩ -- @ macaroonref01.Same s c25
      · refine .q 5 hG ?_ -- @ macaroonref01.Same s s 7.0 s s
        refine ⟨_, .r1 rfl (.tmp rfl), ?_⟩
        exact congrArg AV.v (by rw [eq_comm, decide_eq_false_iff_not]; rintro rfl; exact hc25 rfl)
      · refine .q 3 hG ?_ -- @ macaroonref01.Same s s 5.0
        refine .ad (by first | omega | (simp; done) | (simp; omega) | (simp at *; omega)) (by first | omega | (simp; done) | (simp; omega) | (simp at *; omega)) ?_ -- @ macaroonref01.Same 5.1
        refine .q 2 hG ?_ -- @ macaroonref01.Same 5.2 s
        refine ⟨k + 1, .cons rfl (.cons rfl (.cons rfl (.nil _))), rfl, ?_, by omega⟩
        exact ⟨by omega, (take_eq_succ a b k (by omega) (by omega)).2 ⟨h2, by simpa using hc25⟩⟩
    · refine .q 6 hG ?_ -- @ macaroonref01.Same s s s 8.0 s s
      refine ⟨_, .r1 rfl (.tmp rfl), ?_⟩
      refine congrArg AV.v (by rw [eq_comm, decide_eq_true_eq]; rwa [List.take_of_length_le (by omega), List.take_of_length_le (by omega)] at h2)
theorem Within_c (x n : Int) (h0 : 0 < n) (h1 : n ≤ 4611686018427387904) : FunA gl Tryz.prog 9 [.v x, .v n] (fun r => r = .v (x % n)) := by
  have h2 := Int.tmod_lt_of_pos x h0
  have h3 : -n < x.tmod n := Int.lt_tmod_of_pos x h0
  have h4 : (x.tmod n + n) % n = x % n := by
    rw [Int.add_emod_right, Int.tmod_def, Int.sub_mul_emod_self_left]
  refine FunA.intro Tryz.func9 rfl (by kernel_rfl) 12 rfl rfl _ rfl fun C hC hG => ?_
  refine .q 8 hG ?_ -- @ macaroonmade.Within s s 0.0 s s s 1.0 1.1
  refine .p (.tmod (.t rfl) (.t rfl) (by omega) ?_)
  refine .q 1 hG ?_ -- @ macaroonmade.Within 1.3
  refine .ad (by first | omega | (simp; done) | (simp; omega) | (simp at *; omega)) (by first | omega | (simp; done) | (simp; omega) | (simp at *; omega)) ?_ -- @ macaroonmade.Within 1.4
  refine .q 1 hG ?_ -- @ macaroonmade.Within 1.5
  refine .p (.rem (.t rfl) (.t rfl) (by first | omega | (simp; done) | (simp; omega) | (simp at *; omega)) (by first | omega | (simp; done) | (simp; omega) | (simp at *; omega)) ?_)
  refine .q 3 hG ?_ -- @ macaroonmade.Within 1.7 s s
  refine ⟨_, .r1 rfl (.tmp rfl), ?_⟩
  rw [h4]
def labelC (c : UInt8) : Bool := decide (97 ≤ c) && decide (c ≤ 122)
def isLabel (s : Str) : Bool := decide (1 ≤ s.l.length) && decide (s.l.length ≤ 16) && s.l.all labelC
theorem all_succ {α : Type} (p : α → Bool) (l : List α) (k : Nat) (h : k < l.length) : (l.take (k + 1)).all p = ((l.take k).all p && p l[k]) := by
  rw [List.take_succ_eq_append_getElem h, List.all_append]; simp
theorem all_at {α : Type} (p : α → Bool) (l : List α) (k : Nat) (h : k < l.length) (hf : p l[k] = false) : l.all p = false := by
  rw [List.all_eq_false]; exact ⟨l[k], List.getElem_mem h, by simp [hf]⟩
theorem Name_c (s : Str) : FunA gl Tryz.prog 37 [.v s] (fun r => r = .v (isLabel s)) := by
  refine FunA.intro Tryz.func37 rfl (by kernel_rfl) 28 rfl rfl _ rfl fun C hC hG => ?_
  refine .q 6 hG ?_ -- @ macaroonref01.Name s s 0.0 s s s
  refine .strLe 0 rfl fun hs => ?_
  refine .q 10 hG ?_ -- @ macaroonref01.Name s 1.0 1.1 1.2 1.3 1.4 1.5 1.6 1.7 s
  refine .cond (.t rfl) (fun hc11 => ?_) (fun hc11 => ?_)
  · refine .q 5 hG ?_ -- @ macaroonref01.Name s s 2.0 s s
    refine ⟨_, .r1 rfl (.tmp rfl), ?_⟩
    refine congrArg AV.v ?_; simp only [Bool.or_eq_true, decide_eq_true_eq] at hc11; unfold isLabel; rcases hc11 with h | h
    · rw [decide_eq_false (show ¬ 1 ≤ s.l.length by omega)]; rfl
    · rw [decide_eq_false (show ¬ s.l.length ≤ 16 by omega)]; simp
  · refine .q 7 hG ?_ -- @ macaroonref01.Name s s s s 3.0 s s
    refine .loopR (α := Nat) [(0, _)] (fun k R => (3, .v (k : Int)) :: R) (fun k => []) (fun k => k ≤ s.l.length ∧ (s.l.take k).all labelC = true) (fun k => s.l.length - k) (0) (.cons rfl (.nil _)) ?_ (.cons rfl (.cons rfl (.nil _))) (rfl) fun k hF => ?_
    · simp
    obtain ⟨h1, h2⟩ := hF
    refine .q 9 hG ⟨fun hc15 => ?_, fun hc15 => ?_⟩ -- @ macaroonref01.Name s s s 4.0 4.1 4.2 4.3 s c15
    · refine .q 7 hG ?_ -- @ macaroonref01.Name s s s s s 6.0 6.1
      refine .p (.ixStr Tryz.underlying9 (.t rfl) (.t rfl) (by first | omega | (simp; done) | (simp; omega) | (simp at *; omega)) (by first | omega | (simp; done) | (simp; omega) | (simp at *; omega)) ?_)
      refine .q 4 hG ?_ -- @ macaroonref01.Name 6.3 6.4 6.5 6.6
      refine .go 22 rfl (.t rfl) (fun hg25 => .ixStr Tryz.underlying9 (.o rfl (beq_iff_eq.2 hg25)) (.o rfl (beq_iff_eq.2 hg25)) (by first | omega | (simp; omega) | (have := hg25; simp at this; omega)) (by first | omega | (simp; omega) | (have := hg25; simp at this; omega)) rfl) ?_
      refine .q 3 hG ?_ -- @ macaroonref01.Name 6.8 6.9 s
      refine .cond (.t rfl) (fun hc27 => ?_) (fun hc27 => ?_)
      · refine .q 5 hG ?_ -- @ macaroonref01.Name s s 7.0 s s
        refine ⟨_, .r1 rfl (.tmp rfl), ?_⟩
        refine congrArg AV.v (Eq.symm ?_); unfold isLabel; rw [all_at labelC s.l k (by omega), Bool.and_false]; unfold labelC; simp only [Bool.or_eq_true, decide_eq_true_eq, Int.toNat_natCast] at hc27; rcases hc27 with h | h
        · rw [decide_eq_false (UInt8.not_le.2 h)]; rfl
        · rw [decide_eq_false (UInt8.not_le.2 h), Bool.and_false]
      · refine .q 3 hG ?_ -- @ macaroonref01.Name s s 5.0
        refine .ad (by first | omega | (simp; done) | (simp; omega) | (simp at *; omega)) (by first | omega | (simp; done) | (simp; omega) | (simp at *; omega)) ?_ -- @ macaroonref01.Name 5.1
        refine .q 2 hG ?_ -- @ macaroonref01.Name 5.2 s
        refine ⟨k + 1, .cons rfl (.cons rfl (.nil _)), rfl, ?_, by omega⟩
        refine ⟨by omega, ?_⟩; rw [all_succ _ _ _ (by omega), h2]; simp only [Bool.or_eq_false_iff, decide_eq_false_iff_not, UInt8.not_lt, Int.toNat_natCast] at hc27; simpa [labelC] using hc27
    · refine .q 6 hG ?_ -- @ macaroonref01.Name s s s 8.0 s s
      refine ⟨_, .r1 rfl (.tmp rfl), ?_⟩
      refine congrArg AV.v (Eq.symm ?_); simp only [Bool.or_eq_false_iff, decide_eq_false_iff_not] at hc11; unfold isLabel; rw [List.take_of_length_le (by omega)] at h2; rw [h2]; simp; omega
def key0 (key : List UInt8) : List UInt8 := key ++ List.replicate (64 - key.length) 0
def padded (key : List UInt8) (x : UInt8) : List UInt8 := (key0 key).map (· ^^^ x)
@[simp] theorem padded_len (key : List UInt8) (x : UInt8) : (padded key x).length = max 64 key.length := by simp [padded, key0]; omega
end Go.Proofs.YtpkdbddhekffgaaGreatDoor
set_option maxRecDepth 1000000
set_option synthInstance.maxSize 1000000
set_option synthInstance.maxHeartbeats 10000000
set_option linter.unusedVariables false
set_option linter.unusedSimpArgs false
namespace Go.Proofs.YtpkdbddhekffgaaGreatDoor
open Go.Fl Go.Ab Go.Mac Go.Sha
theorem ofInt_shr (n : Int) (h0 : 0 ≤ n) (h1 : n < 9223372036854775808) (k : Nat) (hk : k < 64) : UInt8.ofInt (n >>> k) = (UInt64.ofInt n >>> UInt64.ofNat k).toUInt8 := by
  obtain ⟨m, rfl⟩ := Int.eq_ofNat_of_zero_le h0
  rw [show ((m : Int) >>> k) = ((m >>> k : Nat) : Int) from rfl]
  apply UInt8.toNat_inj.1
  have e1 : (UInt64.ofInt (m : Int)).toNat = m % 2 ^ 64 := by
    simp [UInt64.ofInt]; omega
  have e2 : (UInt64.ofNat k).toNat = k := by simp; omega
  have e3 : (UInt8.ofInt ((m >>> k : Nat) : Int)).toNat = (m >>> k) % 256 := by
    generalize m >>> k = q
    simp [UInt8.ofInt]; omega
  rw [e3, UInt64.toNat_toUInt8, UInt64.toNat_shiftRight, e1, e2]
  rw [Nat.mod_eq_of_lt hk, Nat.mod_eq_of_lt (show m < 2 ^ 64 by omega)]
attribute [local simp] be64_length
abbrev dk (w : Value) : AV := .ln w (Lens.id (α := G_macaroonmade_Deck))
theorem deckNew_c (l : List Int) : FunH gl Tryz.prog 7 [.v l] [] (fun r Hs => ∃ b, r = dk (ptr b 0) ∧ Hs = [.ob (ptr b 0) (⟨l, 0⟩ : G_macaroonmade_Deck)]) := by
  refine FunH.intro Tryz.func7 rfl (by kernel_rfl) 6 rfl rfl _ rfl _ rfl fun C hC hG => ?_
  refine .q 2 hG ?_ -- @ macaroonmade.New s s
  refine .p (.assign .raw ?_)
  refine .q 4 hG ?_ -- @ macaroonmade.New s s s 1.0
  refine .p (.bS1 G_macaroonmade_Deck.l0 rfl ty47 fo47 (fun c0 => (⟨c0, 0⟩ : G_macaroonmade_Deck)) (fun _ => rfl) rfl rfl (.t rfl) ?_)
  refine .q 1 hG fun b5 => ?_ -- @ macaroonmade.New 1.2
  refine .q 3 hG ?_ -- @ macaroonmade.New 1.3 s s
  refine ⟨_, .r1 rfl (.tmp rfl), ?_⟩
  exact ⟨b5, rfl, rfl⟩
def deckNext (d : G_macaroonmade_Deck) (n : Int) : Int × G_macaroonmade_Deck :=
  if h : d.At.toNat < d.L.length then (d.L[d.At.toNat] % n, ⟨d.L, d.At + 1⟩) else (0, d)
def DeckOk (d : G_macaroonmade_Deck) : Prop := 0 ≤ d.At
theorem deckNext_ok {d : G_macaroonmade_Deck} {n : Int} (h : DeckOk d) : DeckOk (deckNext d n).2 := by
  unfold deckNext; split
  · show 0 ≤ d.At + 1
    unfold DeckOk at h; omega
  · exact h
theorem deckNext_le {d : G_macaroonmade_Deck} {n : Int} (h : 0 < n) : 0 ≤ (deckNext d n).1 ∧ (deckNext d n).1 < n := by
  unfold deckNext; split
  · exact ⟨Int.emod_nonneg _ (by omega), Int.emod_lt_of_pos _ h⟩
  · exact ⟨Int.le_refl 0, h⟩
theorem Next_c (w : Value) (d : G_macaroonmade_Deck) (n : Int) (hd : DeckOk d) (h0 : 0 < n) (h1 : n ≤ 4611686018427387904) :
    FunH gl Tryz.prog 23 [dk w, .v n] [.ob w d] (fun r Hs => r = .v (deckNext d n).1 ∧ Hs = [.ob w (deckNext d n).2]) := by
  unfold DeckOk at hd
  refine FunH.intro Tryz.func23 rfl (by kernel_rfl) 35 rfl rfl _ rfl _ rfl fun C hC hG => ?_
  refine .q 6 hG ?_ -- @ macaroonmade.Deck).Next s s 0.0 s s s
  refine .draw (by kernel_rfl) 10 [[], [(5, 0)], [(6, 1)], [(7, 2)], [], [(9, 4)], [(10, 5)], [(11, 6)], [(12, 7)], [(8, 3), (13, 8)]] rfl (by kernel_rfl) rfl ?_
  refine ⟨_, OpP.move (.t rfl) rfl, ?_⟩
  refine ⟨_, OpP.nilCheckL (.t rfl) rfl, ?_⟩
  refine ⟨_, OpP.fldW G_macaroonmade_Deck.l1 fd47_1 rfl (.t rfl) rfl, ?_⟩
  refine ⟨_, OpP.ldF (fun x => x.At) ty3 (.t rfl) .z (fun _ => rfl) rfl, ?_⟩
  refine ⟨_, OpP.move (.t rfl) rfl, ?_⟩
  refine ⟨_, OpP.nilCheckL (.t rfl) rfl, ?_⟩
  refine ⟨_, OpP.fldW G_macaroonmade_Deck.l0 fd47_0 rfl (.t rfl) rfl, ?_⟩
  refine ⟨_, OpP.ldF (fun x => x.L) ty26 (.t rfl) .z (fun _ => rfl) rfl, ?_⟩
  refine ⟨_, OpP.len Tryz.underlying26 (.t rfl) rfl, ?_⟩
  refine ⟨_, OpP.geq (.t rfl) (.t rfl) rfl, ?_⟩
  show wpB _ _ _ _ _ [] ((14, _) :: (13, _) :: (12, _) :: (11, _) :: (10, _) :: (9, _) :: (8, _) :: (7, _) :: (6, _) :: (5, _) :: _) _
  refine .q 2 hG ⟨fun hc14 => ?_, fun hc14 => ?_⟩ -- @ macaroonmade.Deck).Next s c14
  · refine .q 5 hG ?_ -- @ macaroonmade.Deck).Next s s 2.0 s s
    refine ⟨_, .r1 rfl (.tmp rfl), ?_⟩
    have e : deckNext d n = (0, d) := by unfold deckNext; rw [dif_neg (by omega)]
    rw [e]; exact ⟨rfl, rfl⟩
  · refine .q 2 hG ?_ -- @ macaroonmade.Deck).Next s s
    refine .lenLe 12 rfl fun hl => ?_
    refine .q 1 hG ?_ -- @ macaroonmade.Deck).Next s
    refine .p (.move (.t rfl) (.p (.nilCheckL (.t rfl) (.p (.fldW G_macaroonmade_Deck.l1 fd47_1 rfl (.t rfl) (.p (.ldF (fun x => x.At) ty3 (.t rfl) .z (fun _ => rfl) ?_)))))))
    refine .ad (by first | omega | (simp; done) | (simp; omega) | (simp at *; omega)) (by first | omega | (simp; done) | (simp; omega) | (simp at *; omega)) (.p (.nilCheckL (.t rfl) (.p (.fldW G_macaroonmade_Deck.l1 fd47_1 rfl (.t rfl) (.n (.stF (fun y x => { x with At := y }) ty3 (.t rfl) (.t rfl) .z (fun _ _ => rfl) ?_)))))) -- @ macaroonmade.Deck).Next 3.4
    refine .q 2 hG ?_ -- @ macaroonmade.Deck).Next s s
    refine .draw (by kernel_rfl) 14 [[], [(22, 0)], [(23, 1)], [(24, 2)], [], [(26, 4)], [(27, 5)], [(28, 6)], [(29, 7)], [(25, 3), (30, 8)], [(31, 9)], [], [(32, 10), (33, 11)], [(34, 12)]] rfl (by kernel_rfl) rfl ?_
    refine ⟨_, OpP.move (.t rfl) rfl, ?_⟩
    refine ⟨_, OpP.nilCheckL (.t rfl) rfl, ?_⟩
    refine ⟨_, OpP.fldW G_macaroonmade_Deck.l0 fd47_0 rfl (.t rfl) rfl, ?_⟩
    refine ⟨_, OpP.ldF (fun x => x.L) ty26 (.t rfl) .z (fun _ => rfl) rfl, ?_⟩
    refine ⟨_, OpP.move (.t rfl) rfl, ?_⟩
    refine ⟨_, OpP.nilCheckL (.t rfl) rfl, ?_⟩
    refine ⟨_, OpP.fldW G_macaroonmade_Deck.l1 fd47_1 rfl (.t rfl) rfl, ?_⟩
    refine ⟨_, OpP.ldF (fun x => x.At) ty3 (.t rfl) .z (fun _ => rfl) rfl, ?_⟩
    refine ⟨_, OpP.sub (.t rfl) (.i rfl) (by first | omega | (simp; done) | (simp; omega) | (simp at *; omega)) (by first | omega | (simp; done) | (simp; omega) | (simp at *; omega)) rfl, ?_⟩
    refine ⟨_, OpP.idx ty3 Tryz.underlying26 (.t rfl) (.t rfl) (by first | omega | (simp; done) | (simp; omega) | (simp at *; omega)) (by first | omega | (simp; done) | (simp; omega) | (simp at *; omega)) rfl, ?_⟩
    refine ⟨_, OpP.ldP ty3 (.t rfl) rfl, ?_⟩
    refine ⟨_, OpP.move (.t rfl) rfl, ?_⟩
    refine ⟨_, OpP.call1 hG (Within_c _ _ (by first | omega | (simp; done) | (simp; omega) | (simp at *; omega)) (by first | omega | (simp; done) | (simp; omega) | (simp at *; omega))) (.cons (.t rfl) (.cons (.t rfl) .nil)) rfl, ?_⟩
    refine ⟨_, OpP.assign (.t rfl) rfl, ?_⟩
    show wpB _ _ _ _ _ [] ((4, _) :: (34, _) :: (33, _) :: (32, _) :: (31, _) :: (30, _) :: (29, _) :: (28, _) :: (27, _) :: (26, _) :: (25, _) :: (24, _) :: (23, _) :: (22, _) :: _) _
    refine .q 2 hG ?_ -- @ macaroonmade.Deck).Next s s
    refine ⟨_, .r1 rfl (.tmp rfl), ?_⟩
    have e : deckNext d n = (d.L[d.At.toNat]'(by omega) % n, ⟨d.L, d.At + 1⟩) := by unfold deckNext; rw [dif_pos (by omega)]
    rw [e]; refine ⟨congrArg AV.v ?_, rfl⟩; simp only [Int.add_sub_cancel]
end Go.Proofs.YtpkdbddhekffgaaGreatDoor
set_option maxRecDepth 1000000
set_option linter.unusedVariables false
set_option linter.unusedSimpArgs false
namespace Go.Proofs.YtpkdbddhekffgaaGreatDoor
open Go.Fl Go.Ab Go.Mac Go.Sha
def idx {α : Type} (l : List α) (p : α → Bool) : Int := if l.findIdx p < l.length then (l.findIdx p : Int) else -1
end Go.Proofs.YtpkdbddhekffgaaGreatDoor
set_option maxRecDepth 1000000
set_option linter.unusedVariables false
set_option linter.unusedSimpArgs false
namespace Go.Proofs.YtpkdbddhekffgaaGreatDoor
open Go.Fl Go.Ab Go.Mac Go.Sha
end Go.Proofs.YtpkdbddhekffgaaGreatDoor
set_option maxRecDepth 1000000
set_option linter.unusedVariables false
set_option linter.unusedSimpArgs false
namespace Go.Proofs.YtpkdbddhekffgaaGreatDoor
open Go.Fl Go.Ab Go.Mac Go.Sha
end Go.Proofs.YtpkdbddhekffgaaGreatDoor
set_option maxRecDepth 1000000
set_option linter.unusedVariables false
set_option linter.unusedSimpArgs false
namespace Go.Proofs.YtpkdbddhekffgaaGreatDoor
open Go.Fl Go.Ab Go.Mac Go.Sha
end Go.Proofs.YtpkdbddhekffgaaGreatDoor
set_option maxRecDepth 1000000
set_option linter.unusedVariables false
set_option linter.unusedSimpArgs false
namespace Go.Proofs.YtpkdbddhekffgaaGreatDoor
open Go.Fl Go.Ab Go.Mac Go.Sha
end Go.Proofs.YtpkdbddhekffgaaGreatDoor
set_option maxRecDepth 1000000
set_option synthInstance.maxSize 1000000
set_option synthInstance.maxHeartbeats 10000000
set_option linter.unusedVariables false
set_option linter.unusedSimpArgs false
namespace Go.Proofs.YtpkdbddhekffgaaGreatDoor
open Go.Fl Go.Ab Go.Mac Go.Sha
theorem sh_ofInt (j : Nat) (h : j < 8) : UInt64.ofInt (56 - 8 * (j : Int)) = UInt64.ofNat (56 - 8 * j) := by
  apply UInt64.toNat_inj.1
  have := be64_sh j h
  rw [UInt64.toNat_ofNat']
  omega
theorem eightOwn_c (n : UInt64) : FunH gl Tryz.prog 18 [.v n] [] (fun r Hs => ∃ u, r = .raw u ∧ Hs = [.own 5 u (be64 n 8)]) := by
  refine FunH.introD Tryz.func18 rfl (by kernel_rfl) 18 rfl rfl _ rfl _ rfl fun C hC hG => ?_
  refine .q 2 hG ?_ -- @ macaroonref01.Eight s s
  refine .p (.assign .raw ?_)
  refine .q 3 hG ?_ -- @ macaroonref01.Eight s s s
  refine .p (.assign .raw ?_)
  refine .q 3 hG ?_ -- @ macaroonref01.Eight s s s
  refine .nilOwn 5 UInt8 ?_
  refine .q 4 hG ?_ -- @ macaroonref01.Eight s 2.0 s s
  refine .loopR (α := Nat × Value) [(0, _)] (fun x R => (3, .raw x.2) :: (4, .v (56 - 8 * (x.1 : Int))) :: R) (fun x => [(true, .own 5 x.2 (be64 n x.1))]) (fun x => x.1 ≤ 8) (fun x => 8 - x.1) ((0, .slice none 0 0)) (.cons rfl (.nil _)) ?_ (.cons rfl (.cons rfl (.cons rfl (.nil _)))) (rfl) fun x hF => ?_
  · simp
  obtain ⟨j, w⟩ := x
  dsimp only at hF ⊢
  refine .q 7 hG ⟨fun hc6 => ?_, fun hc6 => ?_⟩ -- @ macaroonref01.Eight s s s 3.0 3.1 s c6
  · refine .q 3 hG ?_ -- @ macaroonref01.Eight s s s
    have hbe := be64_length n j
    have hs5 := be64_sh j (by omega)
    refine .q 5 hG ?_ -- @ macaroonref01.Eight s 5.0 5.1 5.2 5.3
    refine .p (.shr64 (.t rfl) (.t rfl) (by first | omega | (simp; done) | (simp; omega) | (simp at *; omega)) (by first | omega | (simp; done) | (simp; omega) | (simp at *; omega)) (.p (.conv64_8 Tryz.underlying22 Tryz.underlying5 (.t rfl) ?_)))
    refine .bs rfl (by decide) fun b15 => ?_ -- @ macaroonref01.Eight 5.6
    refine .ap (by first | omega | (simp; done) | (simp; omega) | (simp at *; omega)) (by first | omega | (simp; done) | (simp; omega) | (simp at *; omega)) fun w16 => ?_ -- @ macaroonref01.Eight 5.7
    refine .q 1 hG ?_ -- @ macaroonref01.Eight 5.8
    refine .drop ?_
    refine .q 3 hG ?_ -- @ macaroonref01.Eight s s 4.0
    refine .sb (by first | omega | (simp; done) | (simp; omega) | (simp at *; omega)) (by first | omega | (simp; done) | (simp; omega) | (simp at *; omega)) ?_ -- @ macaroonref01.Eight 4.1
    refine .q 2 hG ?_ -- @ macaroonref01.Eight 4.2 s
    refine ⟨(j + 1, w16), .cons rfl (.cons (congrArg (fun q => some (AV.v q)) (by dsimp only; omega)) (.cons rfl (.nil _))), congrArg (fun q => [(true, Blk.own _ _ q)]) (by dsimp only; rw [be64_succ, ← sh_ofInt j (by omega)]), ?_, by dsimp only; omega⟩
    dsimp only; omega
  · refine .q 7 hG ?_ -- @ macaroonref01.Eight s s s 6.0 6.1 s s
    refine ⟨_, .r1 rfl (.tmp rfl), ?_⟩
    obtain rfl : j = 8 := by omega
    exact ⟨0, _, rfl, rfl⟩
end Go.Proofs.YtpkdbddhekffgaaGreatDoor
set_option maxRecDepth 1000000
set_option linter.unusedVariables false
set_option linter.unusedSimpArgs false
namespace Go.Proofs.YtpkdbddhekffgaaGreatDoor
open Go.Fl Go.Ab Go.Mac Go.Sha
end Go.Proofs.YtpkdbddhekffgaaGreatDoor
set_option maxRecDepth 1000000
set_option linter.unusedVariables false
set_option linter.unusedSimpArgs false
namespace Go.Proofs.YtpkdbddhekffgaaGreatDoor
open Go.Fl Go.Ab Go.Mac Go.Sha
end Go.Proofs.YtpkdbddhekffgaaGreatDoor
set_option maxRecDepth 1000000
set_option linter.unusedVariables false
set_option linter.unusedSimpArgs false
namespace Go.Proofs.YtpkdbddhekffgaaGreatDoor
open Go.Fl Go.Ab Go.Mac Go.Sha
end Go.Proofs.YtpkdbddhekffgaaGreatDoor
set_option linter.unusedVariables false
namespace Go.Ab
open Go.Fl Go.RowKit
open Rep (rep)
variable {P : Program} {N : Nat} {C : Ctx} {σ : AEnv} {H : AHeap} {K : AV → Prop} {d : Option Nat} {ty : TypeId} {ps : String} {af : Array Edge} {g : Option (Nat × Bool)} {x y : Operand} {T T2 : TypeId}
theorem ofInt_toNat64 {m : Int} (h0 : 0 ≤ m) (h1 : m ≤ 9223372036854775807) : (BitVec.ofInt 64 m).toNat = m.toNat := by
  rw [BitVec.toNat_ofInt, Int.emod_eq_of_lt h0 (by omega)]
theorem wrap64 {n : Nat} (h : n < 2 ^ 63) : IntKind.wrap .i64 (n : Int) = (n : Int) := wrap_i64 (by omega) (by omega)
theorem andI_run {m n : Int} (h0 : 0 ≤ m) (h1 : 0 ≤ n) (hm : m ≤ 9223372036854775807) (hn : n ≤ 9223372036854775807) : binOp .and T (i64 m) (i64 n) = pure (i64 ((m.toNat &&& n.toNat : Nat) : Int)) := by
  show Op.intBits .and .i64 m n = _
  unfold Op.intBits
  have e : ((BitVec.ofInt 64 m) &&& (BitVec.ofInt 64 n)).toNat = m.toNat &&& n.toNat := by rw [BitVec.toNat_and, ofInt_toNat64 h0 hm, ofInt_toNat64 h1 hn]
  have hb : m.toNat &&& n.toNat < 2 ^ 63 := Nat.lt_of_le_of_lt Nat.and_le_left (by omega)
  show (pure (Value.int .i64 (IntKind.wrap .i64 (((BitVec.ofInt 64 m) &&& (BitVec.ofInt 64 n)).toNat : Int))) : Sem Value) = _
  rw [e, wrap64 hb]
theorem orI_run {m n : Int} (h0 : 0 ≤ m) (h1 : 0 ≤ n) (hm : m ≤ 9223372036854775807) (hn : n ≤ 9223372036854775807) : binOp .or T (i64 m) (i64 n) = pure (i64 ((m.toNat ||| n.toNat : Nat) : Int)) := by
  show Op.intBits .or .i64 m n = _
  unfold Op.intBits
  have e : ((BitVec.ofInt 64 m) ||| (BitVec.ofInt 64 n)).toNat = m.toNat ||| n.toNat := by rw [BitVec.toNat_or, ofInt_toNat64 h0 hm, ofInt_toNat64 h1 hn]
  have hb : m.toNat ||| n.toNat < 2 ^ 63 := Nat.or_lt_two_pow (by omega) (by omega)
  show (pure (Value.int .i64 (IntKind.wrap .i64 (((BitVec.ofInt 64 m) ||| (BitVec.ofInt 64 n)).toNat : Int))) : Sem Value) = _
  rw [e, wrap64 hb]
theorem OpP.andI {m n : Int} (hx : EvA C σ H x (.v m)) (hy : EvA C σ H y (.v n)) (h0 : 0 ≤ m) (h1 : 0 ≤ n) (k : K (.v (((m.toNat &&& n.toNat : Nat) : Int)))) : OpP P N C ⟨d, .binOp .and T x y T2, ty, ps, af, g⟩ σ H K :=
  .vk k (fun ρ I L hs => by
    obtain ⟨e1, _, b1⟩ := hx.int hs
    obtain ⟨e2, _, b2⟩ := hy.int hs
    have hb : m.toNat &&& n.toNat ≤ m.toNat := Nat.and_le_left
    exact .mk ⟨_, ⟨rfl, by omega, by omega⟩, rfl⟩ fun a w ha hm => by
      simp [execOp, ha.ev e1, ha.ev e2, eqGuard, andI_run h0 h1 b1 b2, asV, Rep.agg])
theorem OpP.orI {m n : Int} (hx : EvA C σ H x (.v m)) (hy : EvA C σ H y (.v n)) (h0 : 0 ≤ m) (h1 : 0 ≤ n) (k : K (.v (((m.toNat ||| n.toNat : Nat) : Int)))) : OpP P N C ⟨d, .binOp .or T x y T2, ty, ps, af, g⟩ σ H K :=
  .vk k (fun ρ I L hs => by
    obtain ⟨e1, _, b1⟩ := hx.int hs
    obtain ⟨e2, _, b2⟩ := hy.int hs
    have hb : m.toNat ||| n.toNat < 2 ^ 63 := Nat.or_lt_two_pow (by omega) (by omega)
    exact .mk ⟨_, ⟨rfl, by omega, by omega⟩, rfl⟩ fun a w ha hm => by
      simp [execOp, ha.ev e1, ha.ev e2, eqGuard, orI_run h0 h1 b1 b2, asV, Rep.agg])
theorem OpP.shrIu {m : Int} {n : UInt64} (hx : EvA C σ H x (.v m)) (hy : EvA C σ H y (.v n)) (h1 : n.toNat < 64) (k : K (.v (m >>> n.toNat))) : OpP P N C ⟨d, .binOp .shr T x y T2, ty, ps, af, g⟩ σ H K :=
  .vk k (fun ρ I L hs => by
    have hm := (hx.int hs).2
    refine .mk ⟨_, ⟨rfl, ?_, ?_⟩, rfl⟩ fun a w ha hm => by
      have e := shrI_run T m .u64 n.toNat h1
      simp only [execOp, ha.ev (hx.int hs).1, ha.ev (hy.by64 hs), eqGuard]
      simp [Fl.u64, e, asV, Rep.agg]
    · rw [Int.shiftRight_eq_div_pow]
      rcases Int.le_total 0 m with h | h
      · have := Int.ediv_nonneg h (Int.natCast_nonneg (2 ^ n.toNat)); omega
      · have h2 : (1 : Int) ≤ ((2 ^ n.toNat : Nat) : Int) := Int.natCast_pos.2 (Nat.two_pow_pos _)
        have := Int.le_ediv_of_mul_le (a := m) (b := m) (c := ((2 ^ n.toNat : Nat) : Int)) (by omega) (by have := Int.mul_le_mul_of_nonpos_left h h2; omega)
        omega
    · rw [Int.shiftRight_eq_div_pow]
      rcases Int.le_total 0 m with h | h
      · have := Int.ediv_le_self ((2 ^ n.toNat : Nat) : Int) h; omega
      · have h2 : (0 : Int) < ((2 ^ n.toNat : Nat) : Int) := Int.natCast_pos.2 (Nat.two_pow_pos _)
        have := Int.ediv_lt_of_lt_mul (a := m) (b := 1) h2 (by omega); omega)
theorem lay_a {dd : TypeDesc} {b : Bool} (h : P.underlying T = some dd) (hb : isRow dd = b) : ∀ w, (isAgg T).run P w = .ok b w := fun w => hb ▸ run_isAgg h w
theorem lay_z {n : Nat} (h : (P.info? T).map (·.size) = some n) : ∀ w, (Go.sizeOf T).run P w = .ok n w := fun w => SizeIs.run h w
theorem lay_v {v : Value} (h : (P.info? T).bind (·.zero) = some v) : ∀ w, (zeroValue T).run P w = .ok v w := fun w => by
  cases hq : P.info? T with
  | none => simp [hq] at h
  | some i => simp [hq] at h; simp [zeroValue, typeInfo, hq, h]
theorem FunH.frzT {G : Gl} {P : Program} {f : FuncId} {ags : List AV} {E : TypeId} {α : Type} [r : Rep α] {l : List α} {b : AV} (h : FunH G P f ags [] (fun r Hs => ∃ u, r = .t2 (.raw u) b ∧ Hs = [.own E u l])) : FunA G P f ags (fun r => r = .t2 (.v l) b) := fun I vs hG hvs => by
  have hM := h I [] vs hG hvs rfl
  refine ⟨hM.ok, fun w hm => (hM.run w hm).mono ?_⟩
  rintro e w' ⟨v, J, L', rfl, q1, q2, q3, q4, q5, r, Hs', q6, q7, u, rfl, rfl⟩
  obtain ⟨X, R, rfl, q8, q9⟩ := q7
  have q9' : R = [] := q9
  subst q9'
  obtain ⟨x, y, rfl, q6', q6b⟩ := q6
  have q6'' : x = u := q6'
  subst q6''
  have hle : Le J (J.with X) := Im.with_le fun p hp => q4.sep p (by simpa using hp)
  refine ⟨_, J.with X, rfl, by simpa using q1, q2.trans hle, fun b h0 h1 => ?_, (q4.freeze (i := 0) (c := X) rfl).drop, .t2 (.v l) b, ⟨x, y, rfl, freeze_own q8 hle (fun p hp => Im.with_mem (by simpa using q4.nodup) hp), q6b.mono hle⟩, rfl⟩
  cases hj : J.with X b with
  | none => exact absurd hj h1
  | some o =>
    rcases Im.with_some hj with h2 | h2
    · rcases q5 (b, o) (by simpa using h2) with h3 | h3
      · exact h3
      · cases h3
    · exact q3 b h0 (by simp [h2])
section clo
variable {C : Ctx} {σ : AEnv} {H : AHeap} {G : Gl} {f : FuncId} {args : Array Operand} {tys : Array TypeId}
end clo
theorem OpP.shr64I {m : UInt64} {n : Int} (hx : EvA C σ H x (.v m)) (hy : EvA C σ H y (.v n)) (h0 : 0 ≤ n) (h1 : n < 64) (k : K (.v (m >>> UInt64.ofNat n.toNat))) :
    OpP P N C ⟨d, .binOp .shr T x y T2, ty, ps, af, g⟩ σ H K :=
  .vk k (fun ρ I L hs => OpV.shr64 n.toNat (hx.by64 hs) (hy.int hs).1 (by omega) (by omega) ⟨_, rfl, rfl⟩)
end Go.Ab
set_option linter.unusedVariables false
set_option linter.unusedSimpArgs false
namespace Go.Ab
open Go.Fl Go.RowKit Go.Shelf Go.Proofs
open Rep (rep)
theorem Chg.of_below {w w' : World} (h : Below w.heap.size w w') : Chg [] w w' := ⟨h.os, h.tape, h.output, h.size, fun k hk _ => h.block k hk⟩
end Go.Ab
set_option maxRecDepth 1000000
set_option synthInstance.maxSize 1000000
set_option synthInstance.maxHeartbeats 10000000
set_option linter.unusedVariables false
set_option linter.unusedSimpArgs false
namespace Go.Proofs.YtpkdbddhekffgaaGreatDoor
open Go.Fl Go.Ab Go.Mac Go.Sha
def numL (n : Nat) : List UInt8 := if n < 128 then [UInt8.ofNat n] else UInt8.ofNat (n % 128 + 128) :: numL (n / 128)
termination_by n
theorem numL_lt {n : Nat} (h : n < 128) : numL n = [UInt8.ofNat n] := by rw [numL, if_pos h]
theorem numL_ge {n : Nat} (h : ¬ n < 128) : numL n = UInt8.ofNat (n % 128 + 128) :: numL (n / 128) := by rw [numL, if_neg h]
theorem numL_length (k n : Nat) (h : n < 128 ^ (k + 1)) : (numL n).length ≤ k + 1 := by
  induction k generalizing n with
  | zero => rw [numL_lt (by simpa using h)]; simp
  | succ k ih =>
    by_cases h1 : n < 128
    · rw [numL_lt h1]; simp
    · rw [numL_ge h1, List.length_cons]
      have := ih (n / 128) (by rw [Nat.pow_succ] at h; omega)
      omega
theorem numL_le7 {n : Nat} (h : n ≤ 281474976710656) : (numL n).length ≤ 7 := numL_length 6 n (by omega)
theorem numL_pos (n : Nat) : 0 < (numL n).length := by
  rw [numL]; split <;> simp
theorem and127 (n : Nat) : n &&& 127 = n % 128 := Nat.and_two_pow_sub_one_eq_mod n 7
theorem or128 {n : Nat} (h : n < 128) : n ||| 128 = n + 128 := by
  have := Nat.two_pow_add_eq_or_of_lt (i := 7) (b := n) (by simpa using h) 1
  rw [Nat.or_comm]; simpa [Nat.add_comm] using this.symm
theorem ofInt8_nat (n : Nat) : UInt8.ofInt (n : Int) = UInt8.ofNat n := by apply UInt8.toNat_inj.1; simp [UInt8.ofInt]; omega
def numBad (n : Int) : Bool := decide (n < 0) || decide (281474976710656 < n)
theorem numBad_false {n : Int} (h0 : 0 ≤ n) (h1 : n ≤ 281474976710656) : numBad n = false := by unfold numBad; simp; omega
theorem rNumber_own (n : Int) (h0 : 0 ≤ n) (h1 : n ≤ 281474976710656) : FunH gl Tryz.prog 17 [.v n] [] (fun r Hs => ∃ u, r = .raw u ∧ Hs = [.own 5 u (numL n.toNat)]) := by
  have hlen := numL_le7 (n := n.toNat) (by omega)
  refine FunH.introD Tryz.func17 rfl (by kernel_rfl) 20 rfl rfl _ rfl _ rfl fun C hC hG => ?_
  refine .q 2 hG ?_ -- @ macaroonref01.Number s s
  refine .p (.assign .raw ?_)
  refine .q 3 hG ?_ -- @ macaroonref01.Number s s s
  refine .p (.assign .raw ?_)
  refine .nilOwn 5 UInt8 ?_
  refine .q 3 hG ?_ -- @ macaroonref01.Number s s s
  refine .loopR (α := Nat × Value × List UInt8) [] (fun x R => (0, .v (x.1 : Int)) :: (3, .raw x.2.1) :: R) (fun x => [(true, .own 5 x.2.1 x.2.2)]) (fun x => x.2.2 ++ numL x.1 = numL n.toNat) (fun x => x.1) ((n.toNat, .slice none 0 0, [])) (.nil _) ?_ (.cons (congrArg (fun q => some (AV.v q)) (by dsimp only; omega)) (.cons rfl (.nil _))) (rfl) fun x hF => ?_
  · rfl
  obtain ⟨k, w, l⟩ := x
  dsimp only at hF ⊢
  have hl9 := congrArg List.length hF
  rw [List.length_append] at hl9
  refine .q 7 hG ⟨fun hc5 => ?_, fun hc5 => ?_⟩ -- @ macaroonref01.Number s s s 2.0 2.1 s c5
  · refine .q 6 hG ?_ -- @ macaroonref01.Number s s s s 3.0 3.1
    refine .p (.rem (.t rfl) (.i rfl) (by first | omega | (simp; done) | (simp; omega) | (simp at *; omega)) (by first | omega | (simp; done) | (simp; omega) | (simp at *; omega)) ?_)
    refine .ad (by first | omega | (simp; done) | (simp; omega) | (simp at *; omega)) (by first | omega | (simp; done) | (simp; omega) | (simp at *; omega)) ?_ -- @ macaroonref01.Number 3.3
    refine .q 1 hG ?_ -- @ macaroonref01.Number 3.4
    refine .bs rfl (by decide) fun b11 => ?_ -- @ macaroonref01.Number 3.5
    refine .ap (by first | omega | (simp; done) | (simp; omega) | (simp at *; omega)) (by first | omega | (simp; done) | (simp; omega) | (simp at *; omega)) fun w12 => ?_ -- @ macaroonref01.Number 3.6
    refine .q 1 hG ?_ -- @ macaroonref01.Number 3.7
    refine .drop ?_
    refine .q 3 hG ?_ -- @ macaroonref01.Number s s 4.0
    refine .p (.quo (.t rfl) (.i rfl) (by first | omega | (simp; done) | (simp; omega) | (simp at *; omega)) (by first | omega | (simp; done) | (simp; omega) | (simp at *; omega)) ?_)
    refine .q 2 hG ?_ -- @ macaroonref01.Number 4.2 s
    refine ⟨(k / 128, w12, _), .cons (congrArg (fun q => some (AV.v q)) (by dsimp only; omega)) (.cons rfl (.nil _)), rfl, ?_, by dsimp only; omega⟩
    dsimp only; rw [← hF, numL_ge (n := k) (by omega), List.append_assoc, show ((k : Int) % 128 + 128) = ((k % 128 + 128 : Nat) : Int) by omega, ofInt8_nat]; rfl
  · refine .q 6 hG ?_ -- @ macaroonref01.Number s s s 5.0 5.1 5.2
    refine .bs rfl (by decide) fun b18 => ?_ -- @ macaroonref01.Number 5.3
    refine .ap (by first | omega | (simp; done) | (simp; omega) | (simp at *; omega)) (by first | omega | (simp; done) | (simp; omega) | (simp at *; omega)) fun w19 => ?_ -- @ macaroonref01.Number 5.4
    refine .q 3 hG ?_ -- @ macaroonref01.Number 5.5 s s
    refine ⟨_, .r1 rfl (.tmp rfl), ?_⟩
    exact ⟨1, _, rfl, by rw [← hF, numL_lt (n := k) (by omega), ← ofInt8_nat]; rfl⟩
theorem rNumber_c (n : Int) (h0 : 0 ≤ n) (h1 : n ≤ 281474976710656) : FunA gl Tryz.prog 17 [.v n] (fun r => r = .v (numL n.toNat)) := (rNumber_own n h0 h1).frzA
theorem sliceClone_own (b : List UInt8) (hb : b.length ≤ 1000000) : FunH gl Tryz.prog 45 [.v b] [] (fun r Hs => ∃ u, r = .raw u ∧ Hs = [.own 5 u b]) := by
  refine FunH.introS Tryz.func45 rfl (by kernel_rfl) 8 rfl rfl _ rfl _ rfl fun C hC hG => ?_
  refine .q 2 hG ?_ -- @ slices.Clone[[]byte,byte] s s
  refine .p (.assign .raw ?_)
  refine .q 5 hG ?_ -- @ slices.Clone[[]byte,byte] s s s s 1.0
  refine .p (.eqNilS Tryz.underlying25 (.t rfl) fun c4 hn4 => ?_)
  refine .q 1 hG ?_ -- @ slices.Clone[[]byte,byte] s
  refine .cond (.t rfl) (fun hc4 => ?_) (fun hc4 => ?_)
  · refine .q 2 hG ?_ -- @ slices.Clone[[]byte,byte] s s
    refine .p (.assign .raw ?_)
    refine .q 1 hG ?_ -- @ slices.Clone[[]byte,byte] s
    refine .nilOwn 5 UInt8 ?_
    refine .q 1 hG ?_ -- @ slices.Clone[[]byte,byte] s
    refine ⟨_, .r1 rfl (.tmp rfl), ?_⟩
    refine ⟨_, .cons .z (.nil), ?_⟩
    rw [hn4 hc4]; exact ⟨_, rfl, rfl⟩
  · refine .q 3 hG ?_ -- @ slices.Clone[[]byte,byte] s s s
    refine .h (.buildSlice (α := UInt8) ty5 Tryz.underlying25 .nil rfl (by decide) fun b5 => ?_)
    refine .q 1 hG ?_ -- @ slices.Clone[[]byte,byte] 3.1
    refine .ap (by first | omega | (simp; done) | (simp; omega) | (simp at *; omega)) (by first | omega | (simp; done) | (simp; omega) | (simp at *; omega)) fun w7 => ?_ -- @ slices.Clone[[]byte,byte] 3.2
    refine .q 3 hG ?_ -- @ slices.Clone[[]byte,byte] 3.3 s s
    refine ⟨_, .r1 rfl (.tmp rfl), ?_⟩
    refine ⟨_, .cons .z (.nil), ?_⟩
    rw [List.nil_append]; exact ⟨w7, rfl, rfl⟩
theorem shr7 (k : Nat) : ((k : Int) >>> (7 : Nat)) = ((k / 128 : Nat) : Int) := by rw [Int.shiftRight_eq_div_pow]; rfl
theorem vrApp_own (b : List UInt8) (n : Int) (hb : b.length ≤ 900000) (h0 : 0 ≤ n) (h1 : n ≤ 281474976710656) : FunH gl Tryz.prog 36 [.v b, .v n] [] (fun r Hs => ∃ u, r = .t2 (.raw u) (.v (0 : Int)) ∧ Hs = [.own 5 u (b ++ numL n.toNat)]) := by
  have hlen := numL_le7 (n := n.toNat) (by omega)
  refine FunH.introD Tryz.func36 rfl (by kernel_rfl) 31 rfl rfl _ rfl _ rfl fun C hC hG => ?_
  refine .q 2 hG ?_ -- @ varint.Append s s
  refine .p (.assign .raw ?_)
  refine .q 12 hG ?_ -- @ varint.Append 0.1 s s s s 1.0 1.1 1.2 1.3 1.4 1.5 s
  refine .cond (.t rfl) (fun hc12 => (by exfalso; have hbad := numBad_false h0 h1; unfold numBad at hbad; rw [hbad] at hc12; cases hc12)) (fun hc12 => ?_)
  refine .q 4 hG ?_ -- @ varint.Append s s s 3.0
  refine .k0 hG (sliceClone_own _ (by first | omega | (simp; done) | (simp; omega) | (simp at *; omega))) fun r14 Hs14 hr14 => ?_ -- @ varint.Append 3.1
  obtain ⟨u14, rfl, rfl⟩ := hr14
  show wpB _ _ _ _ _ _ _ ((true, _) :: _)
  refine .q 4 hG ?_ -- @ varint.Append 3.2 s s s
  refine .loopR (α := Nat × Value × List UInt8) [] (fun x R => (1, .v (x.1 : Int)) :: (6, .raw x.2.1) :: R) (fun x => [(true, .own 5 x.2.1 x.2.2)]) (fun x => x.2.2 ++ numL x.1 = b ++ numL n.toNat) (fun x => x.1) ((n.toNat, u14, b)) (.nil _) ?_ (.cons (congrArg (fun q => some (AV.v q)) (by dsimp only; omega)) (.cons rfl (.nil _))) (rfl) fun x hF => ?_
  · rfl
  obtain ⟨k, w, l⟩ := x
  dsimp only at hF ⊢
  have hl9 := congrArg List.length hF
  rw [List.length_append, List.length_append] at hl9
  have hk9 := numL_pos k
  refine .q 7 hG ⟨fun hc16 => ?_, fun hc16 => ?_⟩ -- @ varint.Append s s s 4.0 4.1 s c16
  · refine .q 3 hG ?_ -- @ varint.Append s s s
    have hb6 := and127 k; have hc6 : k % 128 < 128 := Nat.mod_lt _ (by decide)
    refine .q 3 hG ?_ -- @ varint.Append s 6.0 6.1
    refine .p (.andI (.t rfl) (.i rfl) (by first | omega | (simp; done) | (simp; omega) | (simp at *; omega)) (by first | omega | (simp; done) | (simp; omega) | (simp at *; omega)) (.p (.orI (.t rfl) (.i rfl) (by first | omega | (simp; done) | (simp; omega) | (simp at *; omega)) (by first | omega | (simp; done) | (simp; omega) | (simp at *; omega)) ?_)))
    refine .q 1 hG ?_ -- @ varint.Append 6.4
    refine .bs rfl (by decide) fun b24 => ?_ -- @ varint.Append 6.5
    refine .ap (by first | omega | (simp; done) | (simp; omega) | (simp at *; omega)) (by first | omega | (simp; done) | (simp; omega) | (simp at *; omega)) fun w25 => ?_ -- @ varint.Append 6.6
    refine .q 1 hG ?_ -- @ varint.Append 6.7
    refine .drop ?_
    refine .q 3 hG ?_ -- @ varint.Append s s 5.0
    refine .p (.shrIu (.t rfl) (.u64 7 rfl) (by decide) ?_)
    refine .q 2 hG ?_ -- @ varint.Append 5.2 s
    refine ⟨(k / 128, w25, _), .cons (congrArg (fun q => some (AV.v q)) (shr7 k)) (.cons rfl (.nil _)), rfl, ?_, by dsimp only; omega⟩
    dsimp only; rw [← hF, numL_ge (n := k) (by omega), List.append_assoc]; show l ++ ([UInt8.ofInt (((k &&& 127) ||| 128 : Nat) : Int)] ++ numL (k / 128)) = _; rw [and127, or128 (Nat.mod_lt _ (by decide)), ofInt8_nat]; rfl
  · refine .q 6 hG ?_ -- @ varint.Append s s s 7.0 7.1 7.2
    refine .bs rfl (by decide) fun b29 => ?_ -- @ varint.Append 7.3
    refine .ap (by first | omega | (simp; done) | (simp; omega) | (simp at *; omega)) (by first | omega | (simp; done) | (simp; omega) | (simp at *; omega)) fun w30 => ?_ -- @ varint.Append 7.4
    refine .q 4 hG ?_ -- @ varint.Append 7.5 7.6 s s
    refine ⟨_, .r2 rfl (.tmp rfl) (.tmp rfl), ?_⟩
    exact ⟨1, _, rfl, by rw [← hF, numL_lt (n := k) (by omega), ← ofInt8_nat]; rfl⟩
theorem field_own (b x : List UInt8) (hb : b.length ≤ 800000) (hx : x.length ≤ 1024) : FunH gl Tryz.prog 15 [.v b, .v x] [] (fun r Hs => ∃ u, r = .t2 (.raw u) (.v (0 : Int)) ∧ Hs = [.own 5 u (b ++ numL x.length ++ x)]) := by
  have hlen := numL_le7 (n := x.length) (by omega)
  refine FunH.introS Tryz.func15 rfl (by kernel_rfl) 22 rfl rfl _ rfl _ rfl fun C hC hG => ?_
  refine .q 12 hG ?_ -- @ field.Append s s 0.0 0.1 s s s s 1.0 1.1 1.2 s
  refine .condP (.t rfl) (fun hc10 => (by exfalso; omega)) (fun hc10 => ?_)
  refine .q 6 hG ?_ -- @ field.Append s s s 3.0 3.1 3.2
  refine .k0 hG (vrApp_own _ _ (by first | omega | (simp; done) | (simp; omega) | (simp at *; omega)) (by first | omega | (simp; done) | (simp; omega) | (simp at *; omega)) (by first | omega | (simp; done) | (simp; omega) | (simp at *; omega))) fun r15 Hs15 hr15 => ?_ -- @ field.Append 3.3
  obtain ⟨u15, rfl, rfl⟩ := hr15
  show wpB _ _ _ _ _ _ _ ((true, _) :: _)
  refine .q 10 hG ?_ -- @ field.Append 3.4 3.5 3.6 3.7 3.8 s s s 4.0 4.1
  refine .ap (by first | omega | (simp; done) | (simp; omega) | (simp at *; omega)) (by first | omega | (simp; done) | (simp; omega) | (simp at *; omega)) fun w20 => ?_ -- @ field.Append 4.2
  refine .q 5 hG ?_ -- @ field.Append 4.3 4.4 4.5 s s
  refine ⟨_, .r2 rfl (.tmp rfl) (.tmp rfl), ?_⟩
  refine ⟨_, .cons .z (.nil), ?_⟩
  exact ⟨_, rfl, rfl⟩
theorem field_c (b x : List UInt8) (hb : b.length ≤ 800000) (hx : x.length ≤ 1024) : FunA gl Tryz.prog 15 [.v b, .v x] (fun r => r = .t2 (.v (b ++ numL x.length ++ x)) (.v (0 : Int))) := (field_own b x hb hx).frzT
theorem rField_own (x : List UInt8) (hx : x.length ≤ 1000000) : FunH gl Tryz.prog 19 [.v x] [] (fun r Hs => ∃ u, r = .raw u ∧ Hs = [.own 5 u (numL x.length ++ x)]) := by
  have hlen := numL_le7 (n := x.length) (by omega)
  refine FunH.introS Tryz.func19 rfl (by kernel_rfl) 8 rfl rfl _ rfl _ rfl fun C hC hG => ?_
  refine .q 8 hG ?_ -- @ macaroonref01.Field s s 0.0 s s s 1.0 1.1
  refine .k0 hG (rNumber_own _ (by first | omega | (simp; done) | (simp; omega) | (simp at *; omega)) (by first | omega | (simp; done) | (simp; omega) | (simp at *; omega))) fun r5 Hs5 hr5 => ?_ -- @ macaroonref01.Field 1.2
  obtain ⟨u5, rfl, rfl⟩ := hr5
  show wpB _ _ _ _ _ _ _ ((true, _) :: _)
  refine .q 1 hG ?_ -- @ macaroonref01.Field 1.3
  refine .ap (by first | omega | (simp; done) | (simp; omega) | (simp at *; omega)) (by first | omega | (simp; done) | (simp; omega) | (simp at *; omega)) fun w7 => ?_ -- @ macaroonref01.Field 1.4
  refine .q 3 hG ?_ -- @ macaroonref01.Field 1.5 s s
  refine ⟨_, .r1 rfl (.tmp rfl), ?_⟩
  refine ⟨_, .cons .z (.nil), ?_⟩
  exact ⟨_, rfl, rfl⟩
theorem rField_c (x : List UInt8) (hx : x.length ≤ 1000000) : FunA gl Tryz.prog 19 [.v x] (fun r => r = .v (numL x.length ++ x)) := (rField_own x hx).frzA
end Go.Proofs.YtpkdbddhekffgaaGreatDoor
set_option linter.unusedVariables false
namespace Go.Ab
open Go.Fl Go.RowKit
open Rep (rep)
def EqT (P : Program) (T : TypeId) (k : Nat) (α : Type) [Rep α] [DecidableEq α] : Prop :=
  ∀ (d : Nat) (I : Im) (x y : α) (cs ds : List Value) (w : World), rep I x cs → rep I y ds → (Op.equalIn (d + k) T (asV (Rep.agg α) cs) (asV (Rep.agg α) ds)).run P w = .ok (decide (x = y)) w
variable {P : Program} {T E : TypeId}
theorem EqT.i64 (hT : P.underlying T = some (.int .i64)) : EqT P T 1 Int := fun d I x y cs ds w hx hy => by
  obtain ⟨rfl, _⟩ := hx
  obtain ⟨rfl, _⟩ := hy
  exact equalIn_int w d hT
theorem EqT.u64 (hT : P.underlying T = some (.int .u64)) : EqT P T 1 UInt64 := fun d I x y cs ds w hx hy => by
  obtain rfl := hx
  obtain rfl := hy
  refine (equalIn_int w d hT).trans ?_
  congr 1
  rw [decide_eq_decide]
  exact ⟨fun h => UInt64.toNat_inj.1 (Int.ofNat_inj.1 h), fun h => by rw [h]⟩
theorem EqT.str (hT : P.underlying T = some .string) : EqT P T 1 Str := fun d I x y cs ds w hx hy => by
  obtain ⟨⟨a, rfl, ha⟩, _⟩ := hx
  obtain ⟨⟨b, rfl, hb⟩, _⟩ := hy
  refine (run_equalIn_string w d T a b hT).trans ?_
  rw [str_eq ha hb]
inductive EqF (P : Program) (k : Nat) : List Field → Nat → (β : Type) → (s : Rep β) → DecidableEq β → Prop
  | nil {off : Nat} : EqF P k [] off Unit inferInstance inferInstance
  | cons {f : Field} {fs : List Field} {off : Nat} {α β : Type} {r : Rep α} {s : Rep β} {d1 : DecidableEq α} {d2 : DecidableEq β} {dd : TypeDesc} (h1 : f.offset = off) (hn : (f.name ≠ "_") = true) (hT : P.underlying f.type = some dd) (ha : isRow dd = Rep.agg α) (hz : SizeIs P f.type (Rep.size α))
      (h2 : EqT P f.type k α) (t : EqF P k fs (off + Rep.size α) β s d2) : EqF P k (f :: fs) off (α × β) inferInstance inferInstance
theorem EqF.run {k : Nat} {fs : List Field} {off : Nat} {β : Type} {s : Rep β} {dec : DecidableEq β} (h : EqF P k fs off β s dec) : ∀ (d : Nat) (I : Im) (x y : β) (cs ds : List Value) (w : World), rep I x (cs.drop off) → rep I y (ds.drop off) →
    (Op.eqFields (d + k) cs.toArray ds.toArray fs).run P w = .ok (decide (x = y)) w := by
  induction h with
  | nil => intro d I x y cs ds w _ _; rfl
  | @cons f fs off α β r s d1 d2 dd h1 hn hT ha hz h2 t ih =>
    intro d I x y cs ds w hx hy
    obtain ⟨c1, r1, e1, q1, q2⟩ := hx
    obtain ⟨c2, r2, e2, q3, q4⟩ := hy
    have hp : ∀ (zs c rr : List Value) (a : α), zs.drop off = c ++ rr → rep I a c → (part f.type zs.toArray f.offset).run P w = .ok (asV (Rep.agg α) c) w := fun zs c rr a e hc => by
      have hl := Rep.len hc
      have hseg : segGet zs off (Rep.size α) = c := by rw [segGet, e, ← hl]; simp
      obtain ⟨g1, g2⟩ := part_run (P := P) (cs := zs) (off := f.offset) hT hz w
      rw [h1] at g1 g2 ⊢
      cases hag : Rep.agg α with
      | true =>
        rw [g1 (by rw [ha, hag]), hseg]; rfl
      | false =>
        have hone : c.length = 1 := by rw [hl]; exact Rep.one hag
        cases c with
        | nil => simp at hone
        | cons v c =>
          have : c = [] := by simpa using hone
          subst this
          refine g2 v (by rw [ha, hag]) ?_
          have : (zs.drop off)[0]? = some v := by rw [e]; rfl
          simpa using this
    have hdrop : ∀ (zs c rr : List Value) (a : α), zs.drop off = c ++ rr → rep I a c → zs.drop (off + Rep.size α) = rr := fun zs c rr a e hc => by
      rw [← List.drop_drop, e, ← Rep.len hc]; simp
    have hn' : f.name ≠ "_" := by simpa using hn
    simp only [Op.eqFields, if_pos hn', Sem.run_bind, hp cs c1 r1 x.1 e1 q1, hp ds c2 r2 y.1 e2 q3, Result.andThen_ok, h2 d I x.1 y.1 c1 c2 w q1 q3]
    by_cases e : x.1 = y.1
    · simp only [e, decide_true, Bool.not_true, Bool.false_eq_true, if_false]
      rw [ih d I x.2 y.2 cs ds w (by rw [hdrop cs c1 r1 x.1 e1 q1]; exact q2) (by rw [hdrop ds c2 r2 y.1 e2 q3]; exact q4)]
      congr 1
      rw [decide_eq_decide]
      exact ⟨fun h => Prod.ext e h, fun h => by rw [h]⟩
    · simp only [e, decide_false, Bool.not_false, if_true, Sem.run_pure]
      congr 1
      symm
      rw [decide_eq_false_iff_not]
      exact fun h => e (by rw [h])
theorem EqT.struct {S β : Type} [s : Rep β] [dS : DecidableEq S] {dec : DecidableEq β} {k : Nat} {fs : Array Field} (f : S → β) (hf : ∀ a b, f a = f b → a = b) (hT0 : P.underlying T = some (.struct fs)) (hp : P.stoodInHeld T = false) (h : EqF P k fs.toList 0 β s dec) : @EqT P T (k + 1) S (Rep.via f) dS := by
  letI : Rep S := Rep.via f
  intro d I x y cs ds w hx hy
  have hfs : P.fieldsOf T = fs := by unfold Program.fieldsOf; rw [hT0]
  have hT : P.underlying T = some (.struct (P.fieldsOf T)) := by rw [hfs]; exact hT0
  have hx' : rep I (f x) cs := hx
  have hy' : rep I (f y) ds := hy
  refine (run_equalIn_struct w (d + k) T cs.toArray ds.toArray hT hp).trans ?_
  rw [hfs, h.run d I (f x) (f y) cs ds w (by simpa using hx') (by simpa using hy')]
  congr 1
  rw [decide_eq_decide]
  exact ⟨hf _ _, fun h => by rw [h]⟩
variable {N : Nat} {C : Ctx} {σ : AEnv} {H : AHeap} {K : AV → Prop} {d : Option Nat} {ty : TypeId} {ps : String} {af : Array Edge} {g : Option (Nat × Bool)} {x y : Operand} {T2 : TypeId}
theorem OpP.eqlT {α : Type} {r : Rep α} {dd : DecidableEq α} {k0 : Nat} {a b : α} (he : EqT P T k0 α) (hk : Nat.ble k0 10000 = true) (hag : Rep.agg α = true) (hg : P.eqGuardType P.depth T = false) (hx : EvA C σ H x (.v a)) (hy : EvA C σ H y (.v b)) (k : K (.v (decide (a = b)))) :
    OpP P N C ⟨d, .binOp .eql T x y T2, ty, ps, af, g⟩ σ H K :=
  .vk k (fun ρ I L hst => .mk ⟨[.bool (decide (a = b))], rfl, rfl⟩ fun ac w ha hm => by
    obtain ⟨u, h1, cs, h2, rfl⟩ := hx ρ I L hst
    obtain ⟨v, h3, ds, h4, rfl⟩ := hy ρ I L hst
    have hke : 10000 - k0 + k0 = 10000 := by have := Nat.le_of_ble_eq_true hk; omega
    have he' := he (10000 - k0) I a b cs ds w h2 h4
    rw [hke] at he'
    rw [hag] at he' h1 h3
    have h5 := run_eql_struct (P := P) w T cs.toArray ds.toArray
    rw [show (Op.equalIn 10000 T (.agg cs.toArray) (.agg ds.toArray)).run P w = _ from he'] at h5
    have h1' : ev ρ x = some (.agg cs.toArray) := h1
    have h3' : ev ρ y = some (.agg ds.toArray) := h3
    simp only [execOp, ha.ev h1', ha.ev h3', Sem.run_bind, guard_agg w hg, h5, Result.andThen_ok, Sem.run_pure]
    rfl)
theorem OpP.neqT {α : Type} {r : Rep α} {dd : DecidableEq α} {k0 : Nat} {a b : α} (he : EqT P T k0 α) (hk : Nat.ble k0 10000 = true) (hag : Rep.agg α = true) (hg : P.eqGuardType P.depth T = false) (hx : EvA C σ H x (.v a)) (hy : EvA C σ H y (.v b)) (k : K (.v (decide (a ≠ b)))) :
    OpP P N C ⟨d, .binOp .neq T x y T2, ty, ps, af, g⟩ σ H K :=
  .vk k (fun ρ I L hst => .mk ⟨[.bool (decide (a ≠ b))], rfl, rfl⟩ fun ac w ha hm => by
    obtain ⟨u, h1, cs, h2, rfl⟩ := hx ρ I L hst
    obtain ⟨v, h3, ds, h4, rfl⟩ := hy ρ I L hst
    have hke : 10000 - k0 + k0 = 10000 := by have := Nat.le_of_ble_eq_true hk; omega
    have he' := he (10000 - k0) I a b cs ds w h2 h4
    rw [hke] at he'
    rw [hag] at he' h1 h3
    have h5 := run_neq_struct (P := P) w T cs.toArray ds.toArray
    rw [show (Op.equalIn 10000 T (.agg cs.toArray) (.agg ds.toArray)).run P w = _ from he'] at h5
    have h1' : ev ρ x = some (.agg cs.toArray) := h1
    have h3' : ev ρ y = some (.agg ds.toArray) := h3
    simp only [execOp, ha.ev h1', ha.ev h3', Sem.run_bind, guard_agg w hg, h5, Result.andThen_ok, Sem.run_pure]
    by_cases e : a = b <;> simp [e, asV, Rep.agg])
end Go.Ab
set_option maxRecDepth 1000000
set_option linter.unusedSimpArgs false
namespace Go.Proofs.YtpkdbddhekffgaaGreatDoor
open Go.Ab Go.Mac
theorem eqT24 : EqT Tryz.prog 24 2 G_api_Predicate := .struct G_api_Predicate.f (fun a b h => by cases a; cases b; simpa [G_api_Predicate.f] using h) Tryz.underlying24 (by kernel_rfl) (.cons rfl (by simp) Tryz.underlying3 rfl (.of (by kernel_rfl)) (.i64 Tryz.underlying3) (.cons rfl (by simp) Tryz.underlying22 rfl (.of (by kernel_rfl)) (.u64 Tryz.underlying22) (.cons rfl (by simp) Tryz.underlying3 rfl (.of (by kernel_rfl)) (.i64 Tryz.underlying3) (.cons rfl (by simp) Tryz.underlying3 rfl (.of (by kernel_rfl)) (.i64 Tryz.underlying3) (.cons rfl (by simp) Tryz.underlying9 rfl (.of (by kernel_rfl)) (.str Tryz.underlying9) (.cons rfl (by simp) Tryz.underlying3 rfl (.of (by kernel_rfl)) (.i64 Tryz.underlying3) .nil))))))
end Go.Proofs.YtpkdbddhekffgaaGreatDoor
set_option linter.unusedVariables false
namespace Go.Ab
open Go.Fl Go.RowKit
open Rep (rep)
structure OF (α : Type) where
  E : TypeId
  l : List α
  own : Bool
instance {α : Type} [Rep α] : UB (OF α) where
  ub I w x X := (x.own = false ∧ X = [] ∧ RepV I (.v x.l) w) ∨ (x.own = true ∧ (Blk.own x.E w x.l).brep I X)
  mono hle h := h.elim (fun h => .inl ⟨h.1, h.2.1, h.2.2.mono hle⟩) (fun h => .inr ⟨h.1, Blk.mono hle h.2⟩)
theorem of_frz {α : Type} [Rep α] {I J : Im} {w : Value} {x : OF α} {X : List (Nat × Obj)} (h : (Blk.usr w x).brep I X) (hle : Le I J) (hp : ∀ p ∈ X, J p.1 = some p.2) : RepV J (.v x.l) w := by
  rcases h with ⟨_, _, h⟩ | ⟨_, h⟩
  · exact h.mono hle
  · exact freeze_own h hle hp
section rules
variable {P : Program} {C : Ctx} {N : Nat} {σ : AEnv} {H : AHeap} {Q : Exit → AEnv → AHeap → Prop}
theorem wpA.ofV {α : Type} {r : Rep α} (E : TypeId) {w : Value} {l : List α} {b : Bool} {c : Code} {F : Bool × Blk → AHeap} (hH : Hole H (b, .fz w (.v l)) F) (k : wpA P C N c Q σ (F (b, .usr w (OF.mk E l false)))) : wpA P C N c Q σ H := fun ρ I L hs => by
  obtain ⟨i, X, h2, h3, h4⟩ := hH.get hs.heap
  have hset : L.set i X = L := by
    obtain ⟨hi, e⟩ := List.getElem?_eq_some_iff.1 h2
    rw [← e, List.set_getElem_self]
  have := h4 I (b, .usr w (OF.mk E l false)) X (Le.refl I) ⟨.inl ⟨rfl, h3.1.1, h3.1.2⟩, h3.2⟩
  rw [hset] at this
  exact k ρ I L ⟨hs.env, this, hs.im0⟩
theorem wpA.ofOwn {α : Type} {r : Rep α} {E : TypeId} {w : Value} {l : List α} {b : Bool} {c : Code} {F : Bool × Blk → AHeap} (hH : Hole H (b, .own E w l) F) (k : wpA P C N c Q σ (F (b, .usr w (OF.mk E l true)))) : wpA P C N c Q σ H := fun ρ I L hs => by
  obtain ⟨i, X, h2, h3, h4⟩ := hH.get hs.heap
  have hset : L.set i X = L := by
    obtain ⟨hi, e⟩ := List.getElem?_eq_some_iff.1 h2
    rw [← e, List.set_getElem_self]
  have := h4 I (b, .usr w (OF.mk E l true)) X (Le.refl I) ⟨.inr ⟨rfl, h3.1⟩, h3.2⟩
  rw [hset] at this
  exact k ρ I L ⟨hs.env, this, hs.im0⟩
theorem wpA.ofGet {α : Type} {r : Rep α} {w : Value} {s : OF α} (ho : s.own = true) {b : Bool} {c : Code} {F : Bool × Blk → AHeap} (hH : Hole H (b, .usr w s) F) (k : wpA P C N c Q σ (F (b, .own s.E w s.l))) : wpA P C N c Q σ H := fun ρ I L hs => by
  obtain ⟨i, X, h2, h3, h4⟩ := hH.get hs.heap
  have hset : L.set i X = L := by
    obtain ⟨hi, e⟩ := List.getElem?_eq_some_iff.1 h2
    rw [← e, List.set_getElem_self]
  have h5 : (Blk.own s.E w s.l).brep I X := by
    rcases h3.1 with h | h
    · rw [ho] at h; cases h.1
    · exact h.2
  have := h4 I (b, .own s.E w s.l) X (Le.refl I) ⟨h5, h3.2⟩
  rw [hset] at this
  exact k ρ I L ⟨hs.env, this, hs.im0⟩
theorem wpA.ofFrz (hC : Ctx.Ok C) {α : Type} {r : Rep α} {w : Value} {s : OF α} {c : Code} {F : Bool × Blk → AHeap} (hH : Hole H (true, .usr w s) F) (k : wpA P C N c Q σ (F (true, .fz w (.v s.l)))) : wpA P C N c Q σ H := fun ρ I L hs => by
  obtain ⟨i, X, h1, h2, h3⟩ := hH.get hs.heap
  refine .freeze i h1 (frz_ok hC h2) fun J hle hp => k ρ J _ ⟨(hs.mono hle).env, h3 J _ [] hle ⟨⟨rfl, of_frz h2.1 hle hp⟩, by simp⟩, hs.im0.trans hle⟩
end rules
theorem OpP.lss64 {P : Program} {C : Ctx} {N : Nat} {σ : AEnv} {H : AHeap} {K : AV → Prop} {d : Option Nat} {ty : TypeId} {ps : String} {af : Array Edge} {g : Option (Nat × Bool)} {x y : Operand} {T T2 : TypeId} {m n : UInt64}
    (hx : EvA C σ H x (.v m)) (hy : EvA C σ H y (.v n)) (k : K (.v (decide (m < n)))) : OpP P N C ⟨d, .binOp .lss T x y T2, ty, ps, af, g⟩ σ H K :=
  .vk k (fun ρ I L hs => .lss (hx.by64 hs) (hy.by64 hs) ⟨_, rfl, by rw [dec_lt64]; rfl⟩)
section del
variable {P : Program} {C : Ctx} {N : Nat} {σ : AEnv} {H H' : AHeap} {Q : Exit → AEnv → AHeap → Prop}
end del
end Go.Ab
namespace Go.Fl
section scope
variable {P : Program} {b : Frame} {a : Act} {k : List Item} {cs : List Frame} {w : World}
theorem stepR_scope {c : Code} : step P (lone (b.atR a (.code (.scope c) :: k)) cs w) = .next (lone (b.atR a (.code c :: .inScope c :: k)) cs w) :=
  step_lone_go (by simp [stepG, stepG.exec, Frame.atR])
theorem stepR_inScope {c : Code} : step P (lone (b.atR a (.inScope c :: k)) cs w) = .next (lone (b.atR a k) cs w) :=
  step_lone_go (by simp [stepG, stepG.exec, Frame.atR])
theorem wpIn_scopeS {F : Fence} {n : Nat} {Q Q' : Exit → Act → World → Prop} {c : Code} (h : c.wpIn F n P Q' a w) (hq : ∀ e a w, Q' e a w → Q e a w ∧ ∀ l, e ≠ .goto l) : (Code.scope c).wpIn F n P Q a w := by
  intro b k cs hro hb hr
  have h0 : (lone (b.atR a (.code (.scope c) :: k)) cs w).fenced P F := fenced_calm hb hr rfl
  obtain ⟨e, a₁, w₁, hq1, harr⟩ := h b (.inScope c :: k) cs hro hb hr
  obtain ⟨hq2, hq3⟩ := hq e a₁ w₁ hq1
  cases e with
  | normal => exact ⟨.normal, a₁, w₁, hq2, .head h0 stepR_scope (StepsIn.trans harr (.one (fenced_calm hb hr rfl) stepR_inScope))⟩
  | exit id =>
    have hx : exitTo id (.inScope c :: k) = exitTo id k := by simp [exitTo]
    exact ⟨.exit id, a₁, w₁, hq2, fun k' hk => .head h0 stepR_scope (harr.1 k' (by rw [hx]; exact hk)),
      fun hr' hk => let ⟨k₁, h1, h2⟩ := harr.2 hr' (by rw [hx]; exact hk); ⟨k₁, h1, .head h0 stepR_scope h2⟩⟩
  | goto l => exact absurd rfl (hq3 l)
  | ret => exact ⟨_, a₁, w₁, hq2, .of_steps (.one h0 stepR_scope) harr⟩
  | panic ch => exact ⟨_, a₁, w₁, hq2, .of_steps (.one h0 stepR_scope) harr⟩
  | outgrown => exact ⟨_, a₁, w₁, hq2, .of_steps (.one h0 stepR_scope) harr⟩
end scope
end Go.Fl
namespace Go.Ab
open Go.Fl Go.RowKit
@[reducible] def noGA (Q : Exit → AEnv → AHeap → Prop) : Exit → AEnv → AHeap → Prop
  | .goto _, _, _ => False
  | e, σ, H => Q e σ H
theorem wpA.scope {P : Program} {C : Ctx} {N : Nat} {σ : AEnv} {H : AHeap} {Q : Exit → AEnv → AHeap → Prop} {c : Code} (k : wpA P C N c (noGA Q) σ H) : wpA P C N (.scope c) Q σ H := fun ρ I L hs a w ha hst => by
  refine wpIn_scopeS (k ρ I L hs a w ha hst) ?_
  rintro e a w ⟨ρ, I, L, h1, h2, σ, H, h3, h4⟩
  cases e with
  | goto l => exact h4.elim
  | _ => exact ⟨⟨ρ, I, L, h1, h2, σ, H, h3, h4⟩, fun l h => by cases h⟩
theorem wpA.label {P : Program} {C : Ctx} {N : Nat} {σ : AEnv} {H : AHeap} {Q : Exit → AEnv → AHeap → Prop} {l : Nat} (h : Q .normal σ H) : wpA P C N (.label l) Q σ H := fun ρ I L hs a w ha hst =>
  wpIn_label ⟨ρ, I, L, ha, hst, σ, H, hs, h⟩
section drawN
variable {P : Program} {C : Ctx} {N : Nat} {Q : Exit → AEnv → AHeap → Prop} {σ : AEnv} {H : AHeap}
end drawN
theorem OpP.idxD {P : Program} {C : Ctx} {N : Nat} {σ : AEnv} {H : AHeap} {K : AV → Prop} {d : Option Nat} {ty : TypeId} {ps : String} {af : Array Edge} {g : Option (Nat × Bool)} {x y : Operand} {T E : TypeId} {α : Type} {r : Rep α} {i : Inhabited α} {l : List α} {n : Int}
    (tE : TyIs P E α) (hT : P.underlying T = some (.slice E)) (hx : EvA C σ H x (.v l)) (hy : EvA C σ H y (.v n)) (h0 : 0 ≤ n) (h1 : n < l.length) (k : K (.p (l.getD n.toNat default))) : OpP P N C ⟨d, .indexAddr T x y, ty, ps, af, g⟩ σ H K :=
  .idx tE hT hx hy h0 h1 (by
    have e : l.getD n.toNat default = l[n.toNat]'(by omega) := by rw [List.getD_eq_getElem?_getD, List.getElem?_eq_getElem (by omega)]; rfl
    rw [← e]; exact k)
theorem OpP.shl64 {P : Program} {N : Nat} {C : Ctx} {σ : AEnv} {H : AHeap} {K : AV → Prop} {d : Option Nat} {ty : TypeId} {ps : String} {af : Array Edge} {g : Option (Nat × Bool)} {x y : Operand} {T T2 : TypeId} {m c : UInt64} (hx : EvA C σ H x (.v m)) (hy : EvA C σ H y (.v c)) (h0 : 0 ≤ c.toNat) (h1 : c.toNat < 64) (k : K (.v (m <<< c))) : OpP P N C ⟨d, .binOp .shl T x y T2, ty, ps, af, g⟩ σ H K :=
  .vk k (fun ρ I L hs => OpV.shl64 c.toNat (hx.by64 hs) (hy.by64 hs) rfl h1 ⟨[Fl.u64 (m <<< c)], rfl, by rw [UInt64.ofNat_toNat]; rfl⟩)
theorem OpP.not64 {P : Program} {N : Nat} {C : Ctx} {σ : AEnv} {H : AHeap} {K : AV → Prop} {d : Option Nat} {ty : TypeId} {ps : String} {af : Array Edge} {g : Option (Nat × Bool)} {x : Operand} {T : TypeId} {m : UInt64} (hx : EvA C σ H x (.v m)) (k : K (.v (~~~m))) : OpP P N C ⟨d, .unOp .xor T x, ty, ps, af, g⟩ σ H K :=
  .vk k (fun ρ I L hs => OpV.not64 (hx.by64 hs) ⟨[Fl.u64 (~~~m)], rfl, rfl⟩)
end Go.Ab
