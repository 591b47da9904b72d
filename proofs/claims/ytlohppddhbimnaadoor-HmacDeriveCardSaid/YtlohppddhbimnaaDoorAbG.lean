import Derived.Test.YtlohppddhbimnaaDoorAbF
import Derived.Laws.IdiomStrings
/- Rules over typed values: composite values, growing slices, strings, equality. -/
set_option linter.unusedVariables false
namespace Go.Ab
open Go.Fl Go.RowKit
open Rep (rep)
variable {P : Program} {C : Ctx} {N : Nat} {σ : AEnv} {H : AHeap} {K : AV → Prop} {KH : AV → AHeap → Prop} {d : Option Nat} {ty : TypeId} {ps : String} {af : Array Edge} {g : Option (Nat × Bool)}
variable {x y z : Operand} {T T2 E S D U : TypeId}
/-- The parts of a composite value laid one after the other. -/
inductive Parts {α : Type} [Rep α] (C : Ctx) (σ : AEnv) (H : AHeap) (place : Nat → Option (Nat × Nat)) : List (Nat × Operand) → α → α → Prop
  | nil {x : α} : Parts C σ H place [] x x
  | cons {i : Nat} {o : Operand} {γ : Type} {q : Rep γ} {r : List (Nat × Operand)} {x y : α} (m : Lens α γ) (c : γ) (hi : place i = some (m.off, Rep.size γ)) (ho : EvA C σ H o (.v c)) (t : Parts C σ H place r (m.set c x) y) : Parts C σ H place ((i, o) :: r) x y
theorem Parts.run {α : Type} [Rep α] {place : Nat → Option (Nat × Nat)} {ρ : Env} {I : Im} {L : Lh} (hs : RSt C I L σ H ρ) {ps : List (Nat × Operand)} {x y : α} (h : Parts C σ H place ps x y) : ∀ {cells : Array Value}, rep I x cells.toList →
    ∃ pv out, evP ρ ps = some pv ∧ Instr.fill place cells pv = some out ∧ rep I y out.toList := by
  induction h with
  | nil => intro cells hc; exact ⟨[], cells, rfl, rfl, hc⟩
  | @cons i o γ q r x y m c hi ho t ih =>
    intro cells hc
    obtain ⟨u, h1, vs, h2, rfl⟩ := ho ρ I L hs
    have hcv := cells_asV h2
    have hsz : (asV (Rep.agg γ) vs).cells.size = Rep.size γ := by have := congrArg List.length hcv; rw [Rep.len h2] at this; simpa using this
    have hcl : cells.size = Rep.size α := by have := Rep.len hc; simpa using this
    have hfit := m.fits
    have hseg := fill_seg (cells := cells) (vs := (asV (Rep.agg γ) vs).cells) (off := m.off) (by rw [hsz, hcl]; exact hfit)
    rw [hcv] at hseg
    obtain ⟨pv, out, h3, h4, h5⟩ := ih (cells := (asV (Rep.agg γ) vs).cells.zipIdx.foldl (fun cs (c, j) => cs.setIfInBounds (m.off + j) c) cells) (by rw [hseg]; exact m.sets hc h2)
    refine ⟨(i, asV (Rep.agg γ) vs) :: pv, out, by simp [evP, h1, h3], ?_, h5⟩
    simp only [Instr.fill, hi]
    rw [if_neg (by simp only [hsz, ne_eq, not_true, hcl, gt_iff_lt]; simp; omega)]
    exact h4
theorem offs_run {offs : List (Nat × Nat)} (hT : fieldOffs P T = some offs) (w : World) : ∃ fs, P.underlying T = some (.struct fs) ∧ (fs.mapM fun f => (do pure (f.offset, ← sizeOf f.type) : Sem (Nat × Nat))).run P w = .ok offs.toArray w := by
  unfold fieldOffs at hT
  split at hT
  · rename_i fs hu
    have hpl : ∀ (l : List Field) (o : List (Nat × Nat)), (l.mapM fun f => (P.info? f.type).map fun i => (f.offset, i.size)) = some o →
        (l.mapM fun f => (do pure (f.offset, ← sizeOf f.type) : Sem (Nat × Nat))).run P w = .ok o w := by
      intro l
      induction l with
      | nil => intro o h; simp at h; subst h; simp
      | cons f r ih =>
        intro o h
        rw [List.mapM_cons] at h
        cases hq : P.info? f.type with
        | none => simp [hq] at h
        | some inf =>
          cases hr : (r.mapM fun f => (P.info? f.type).map fun i => (f.offset, i.size)) with
          | none => simp [hq, hr] at h
          | some o' =>
            simp [hq, hr] at h
            subst h
            have hsz : SizeIs P f.type inf.size := by simp [SizeIs, hq]
            rw [List.mapM_cons, Sem.run_bind, Sem.run_bind, hsz.run]
            simp only [Result.andThen_ok, Sem.run_pure, Sem.run_bind]
            rw [ih o' hr]
            simp
    refine ⟨fs, hu, ?_⟩
    rw [Array.mapM_eq_mapM_toList, map_eq_pure_bind, Sem.run_bind, hpl fs.toList offs hT]
    simp
  · cases hT
/-- A structure's literal. -/
theorem OpP.buildS {α : Type} {r : Rep α} {i0 : Inhabited α} {offs : List (Nat × Nat)} {parts : Array (Nat × Operand)} {a : α} (c : α) (hg : Rep.agg α = true) (tT : TyIs P T α) (hT : fieldOffs P T = some offs) (hp : Parts C σ H (fun i => offs[i]?) parts.toList (default : α) a) (e : a = c) (k : K (.v c)) :
    OpP P N C ⟨d, .build T parts, ty, ps, af, g⟩ σ H K := by
  subst e
  exact .vk k (fun ρ I L hs => by
    obtain ⟨zs, hz1, hz2⟩ := tT.zero
    intro ac w ha hm
    obtain ⟨zv, h1, h2⟩ := zeros_run hz1 w
    obtain ⟨pv, out, h3, h4, h5⟩ := hp.run hs (cells := zv.cells) (by rw [h2]; exact hz2 I)
    have hparts : (parts.map fun x => (x.1, ac.eval x.2)).toList = pv := by rw [Array.toList_map]; exact ha.evP h3
    obtain ⟨fs, hu, h6⟩ := offs_run hT w
    refine ⟨.agg out, ⟨out.toList, h5, by rw [hg]; rfl⟩, ?_⟩
    have e1 : (fun (i : Nat) => offs.toArray[i]?) = fun (i : Nat) => offs[i]? := by funext i; simp
    simp only [execOp, Instr.build, Sem.run_bind, h1, Result.andThen_ok, run_underlying hu, h6, hparts, Sem.run_pure, e1, h4])
/-- An array's literal. -/
theorem OpP.buildA {β : Type} {n : Nat} {r : Rep β} {i0 : Inhabited β} {ag : Bool} {parts : Array (Nat × Operand)} {a : Arr n β} (c : Arr n β) (tT : TyIs P T (Arr n β)) (hT : elemOff P T = some (n, Rep.size β, ag)) (hp : Parts C σ H (fun i => some (i * Rep.size β, Rep.size β)) parts.toList (default : Arr n β) a) (e : a = c) (k : K (.v c)) :
    OpP P N C ⟨d, .build T parts, ty, ps, af, g⟩ σ H K := by
  subst e
  exact .vk k (fun ρ I L hs => by
    obtain ⟨zs, hz1, hz2⟩ := tT.zero
    intro ac w ha hm
    obtain ⟨zv, h1, h2⟩ := zeros_run hz1 w
    obtain ⟨pv, out, h3, h4, h5⟩ := hp.run hs (cells := zv.cells) (by rw [h2]; exact hz2 I)
    have hparts : (parts.map fun x => (x.1, ac.eval x.2)).toList = pv := by rw [Array.toList_map]; exact ha.evP h3
    unfold elemOff at hT
    split at hT
    · rename_i m e hu
      split at hT
      · rename_i inf dd h6 h7
        simp only [Option.some.injEq, Prod.mk.injEq] at hT
        obtain ⟨rfl, h8, _⟩ := hT
        have hsz : SizeIs P e (Rep.size β) := by simp [SizeIs, h6, h8]
        refine ⟨.agg out, ⟨out.toList, h5, rfl⟩, ?_⟩
        simp only [execOp, Instr.build, Sem.run_bind, h1, Result.andThen_ok, run_underlying hu, hsz.run, hparts, h4, Sem.run_pure]
      · cases hT
    · cases hT)
/-- The elements of a slice's literal, all of them in order. -/
inductive Elems {α : Type} [Rep α] (C : Ctx) (σ : AEnv) (H : AHeap) : Nat → List (Nat × Operand) → List α → Prop
  | nil {i : Nat} : Elems C σ H i [] []
  | cons {i : Nat} {o : Operand} {c : α} {r : List (Nat × Operand)} {l : List α} (ho : EvA C σ H o (.v c)) (t : Elems C σ H (i + 1) r l) : Elems C σ H i ((i, o) :: r) (c :: l)
theorem Elems.run {α : Type} [Rep α] {ρ : Env} {I : Im} {L : Lh} (hs : RSt C I L σ H ρ) {i : Nat} {ps : List (Nat × Operand)} {l : List α} (h : Elems C σ H i ps l) : ∃ pv vs, evP ρ ps = some pv ∧ sideBySide (Rep.size α) i pv = some vs ∧ repL I l vs := by
  induction h with
  | nil => exact ⟨[], [], rfl, rfl, rfl⟩
  | @cons i o c r l ho t ih =>
    obtain ⟨u, h1, cs, h2, rfl⟩ := ho ρ I L hs
    obtain ⟨pv, vs, h3, h4, h5⟩ := ih
    have hcv := cells_asV h2
    have hsz : (asV (Rep.agg α) cs).cells.size = Rep.size α := by have := congrArg List.length hcv; rw [Rep.len h2] at this; simpa using this
    refine ⟨(i, asV (Rep.agg α) cs) :: pv, cs ++ vs, by simp [evP, h1, h3], ?_, cs, vs, rfl, h2, h5⟩
    have b1 : Nat.beq i i = true := Nat.beq_refl i
    simp only [sideBySide, hsz, b1, Nat.beq_refl, Bool.and_self, cond_true, h4, Option.map_some, hcv]
theorem OpH.buildSlice {α : Type} {r : Rep α} {i0 : Inhabited α} {n : Nat} {l : List α} {parts : Array (Nat × Operand)} (tE : TyIs P E α) (hT : P.underlying T = some (.slice E)) (hp : Elems C σ H 0 parts.toList l) (hn : l.length = n) (hb : n * Rep.size α ≤ 16777216)
    (k : ∀ b, KH (.raw (slc b 0 n n)) ((true, .own E (slc b 0 n n) l) :: H)) : OpH P C N ⟨d, .buildSlice T n parts, ty, ps, af, g⟩ σ H KH :=
  .ofX fun ρ I L hs => by
    obtain ⟨zs, hz1, hz2⟩ := tE.zero
    obtain ⟨pv, vs, h1, h2, h3⟩ := hp.run hs
    subst hn
    have hl := h3.len
    refine .buildSlice hT tE.size hz1 (Rep.len (hz2 I)) h1 h2 hl hb fun b => ⟨.raw (slc b 0 l.length l.length), .own E (slc b 0 l.length l.length) l, _, rfl, rfl, ⟨vs, .of (.made hl ?_), h3⟩, k b⟩
    have : 1 ≤ Rep.size α := Nat.one_le_iff_ne_zero.2 tE.pos
    have := Nat.mul_le_mul_left l.length this
    unfold maxLen; omega
/-- What 'make' lays. -/
structure SlT (P : Program) (T E : TypeId) (α : Type) (by_ : Nat) [Rep α] [Inhabited α] : Prop where
  elt : Elt P T E (Rep.size α) by_
  ty : TyIs P E α
theorem madeCells_gen {zs : List Value} {n : Nat} (h : zs.length ≠ 0) : madeCells zs.toArray (n * zs.length) = (List.replicate n zs).flatten.toArray := by
  apply Array.ext'
  apply List.ext_getElem?
  intro i
  unfold madeCells
  simp only [Array.toList_map, Array.toList_range, List.getElem?_map, List.size_toArray]
  by_cases hi : i < n * zs.length
  · rw [List.getElem?_range hi]
    have hm : i % zs.length < zs.length := Nat.mod_lt _ (by omega)
    simp only [Option.map_some]
    have key : ∀ (n i : Nat), i < n * zs.length → (List.replicate n zs).flatten[i]? = zs[i % zs.length]? := by
      intro n
      induction n with
      | zero => intro i hi; simp at hi
      | succ n ih =>
        intro i hi
        rw [List.replicate_succ, List.flatten_cons]
        by_cases h1 : i < zs.length
        · rw [List.getElem?_append_left h1, Nat.mod_eq_of_lt h1]
        · rw [List.getElem?_append_right (by omega), ih (i - zs.length) (by rw [Nat.succ_mul] at hi; omega)]
          exact congrArg (fun q => zs[q]?) (Nat.mod_eq_sub_mod (by omega)).symm
    rw [key n i hi]
    simp [hm]
  · have hf : ((List.replicate n zs).flatten).length = n * zs.length := by simp
    rw [List.getElem?_eq_none (by simp; omega), List.getElem?_eq_none (by rw [hf]; omega)]
    rfl
theorem OpH.make {α : Type} {r : Rep α} {i0 : Inhabited α} {by_ : Nat} {i : Int} (st : SlT P T E α by_) (hx : EvA C σ H x (.v i)) (h0 : 0 ≤ i) (hb : (by_ : Int) * i ≤ 281474976710656) (hn : i ≤ 9223372036854775807)
    (k : ∀ b, KH (.raw (slc b 0 i.toNat i.toNat)) ((true, .own E (slc b 0 i.toNat i.toNat) (List.replicate i.toNat (default : α))) :: H)) : OpH P C N ⟨d, .makeSlice T x x, ty, ps, af, g⟩ σ H KH :=
  .ofX fun ρ I L hs => by
    obtain ⟨inf, zv, h1, h2, h3, h4, h5⟩ := st.elt.info
    obtain ⟨zs, hz1, hz2⟩ := st.ty.zero
    have hze : zs = zv.cells.toList := by
      have : zerosOf P E = some zv.cells.toList := by simp [zerosOf, h1, h2]
      rw [this] at hz1; exact (Option.some.inj hz1).symm
    have hzl : zs.length = Rep.size α := Rep.len (hz2 I)
    have hrep : repL I (List.replicate i.toNat (default : α)) (List.replicate i.toNat zs).flatten := repL_replicate (hz2 I) i.toNat
    obtain ⟨hxi, _⟩ := hx.int hs
    refine opx_new (v := fun b => slc b 0 i.toNat i.toNat) (cs := (List.replicate i.toNat zs).flatten) (e := E) (fun a w ha hm => ?_)
      fun b => ⟨.raw (slc b 0 i.toNat i.toNat), .own E (slc b 0 i.toNat i.toNat) (List.replicate i.toNat (default : α)), _, rfl, rfl, ⟨_, .of ?_, hrep⟩, k b⟩
    · have h := run_make (P := P) w T E inf zv st.elt.und h1 h2 .i64 .i64 i i h0 (Int.le_refl _) (by rw [h4]; exact hb) hn
      simp only [execOp, Sem.run_bind, ha.ev hxi, h, Result.andThen_ok, Sem.run_pure]
      have e1 : madeCells zv.cells (i.toNat * inf.size) = (List.replicate i.toNat zs).flatten.toArray := by
        have := madeCells_gen (zs := zs) (n := i.toNat) (by rw [hzl]; exact st.ty.pos)
        rw [hze] at this ⊢
        rw [← this, h3, ← hzl, hze]
      rw [e1]
    · have := Own.made (e := E) (s := Rep.size α) (b := b) (n := i.toNat) (xs := (List.replicate i.toNat zs).flatten) (by simp [hzl]) (by unfold maxLen; omega)
      simpa using this
theorem SlT.pos {α : Type} [Rep α] [Inhabited α] {by_ : Nat} (st : SlT P T E α by_) : 0 < Rep.size α := Nat.pos_of_ne_zero st.ty.pos
/-- What an appended value brings. -/
def SrcA (P : Program) (C : Ctx) (σ : AEnv) (H : AHeap) (y : Operand) {α : Type} [Rep α] (m : List α) : Prop := ∀ ρ I L, RSt C I L σ H ρ → ∃ u news, ev ρ y = some u ∧ Src P I L (Rep.size α) u m.length news ∧ repL I m news
theorem SrcA.v {α : Type} {r : Rep α} {m : List α} (h : EvA C σ H y (.v m)) : SrcA P C σ H y m := fun ρ I L hs => by
  obtain ⟨u, h1, xs, h2, h3⟩ := h.sl hs
  exact ⟨u, xs, h1, .sl h2, h3⟩
theorem SrcA.own {α : Type} {r : Rep α} {t : Nat} {w : Value} {m : List α} {bb : Bool} {E' : TypeId} {F : Bool × Blk → AHeap} (ht : lookA σ t = some (.raw w)) (hH : Hole H (bb, .own E' w m) F) : SrcA P C σ H (.tmp t) m := fun ρ I L hs => by
  obtain ⟨u, h1, rfl⟩ := hs.env t _ ht
  obtain ⟨j, X, h2, h3, _⟩ := hH.get hs.heap
  obtain ⟨xs, h4, h5⟩ := h3.1
  exact ⟨_, xs, h1, Ab.Src.ownG j h2 h4, h5⟩
theorem SrcA.str {s : Str} (h : EvA C σ H y (.v s)) : SrcA P C σ H y s.l := fun ρ I L hs => by
  obtain ⟨b, h1, h2⟩ := h.str hs
  refine ⟨_, bytesV s.l, h1, ?_, ?_⟩
  · have := Src.str (P := P) (I := I) (L := L) b
    rw [h2] at this
    have e : b.size = s.l.length := by rw [← h2]; rfl
    rw [e] at this
    exact this
  · have : ∀ l : List UInt8, repL I l (bytesV l) := by
      intro l
      induction l with
      | nil => rfl
      | cons c l ih => exact ⟨[Fl.u8 c], bytesV l, rfl, rfl, ih⟩
    exact this s.l
theorem OpH.append {α : Type} {r : Rep α} {i0 : Inhabited α} {by_ t : Nat} {w : Value} {l m : List α} {bb : Bool} {F : Bool × Blk → AHeap} (st : SlT P T E α by_) (hU : (∃ E2, P.underlying U = some (.slice E2)) ∨ P.underlying U = some .string) (hx : lookA σ t = some (.raw w))
    (hH : Hole H (bb, .own E w l) F) (hy : SrcA P C σ H y m) (hb : (l.length + m.length) * by_ ≤ 140737488355328) (hn : l.length + m.length ≤ 9223372036854775807) (k : ∀ w', KH (.raw w') (F (true, .own E w' (l ++ m)))) (hbb : bb = true) :
    OpH P C N ⟨d, .call ⟨.builtin .append, #[.tmp t, y], #[T, U]⟩, ty, ps, af, g⟩ σ H KH := fun ρ I L hs => by
  obtain ⟨u, h1, rfl⟩ := hs.env t _ hx
  obtain ⟨v, news, h2, h3, h4⟩ := hy ρ I L hs
  obtain ⟨j, X, h5, h6, h7⟩ := hH.get hs.heap
  obtain ⟨xs, h8, h9⟩ := h6.1
  intro a w0 ha hst
  have hfr := h6.2 hbb
  refine Yld.mono (OpS.appendG (K := fun v' J L' => ∃ X', L' = L.set j X' ∧ J = I ∧ OwnG E (Rep.size α) v' (l.length + m.length) (xs ++ news) X' ∧ (∀ p ∈ X', p.1 ∈ X.map Prod.fst ∨ C.w0.heap.size ≤ p.1)) j st.elt st.pos hU (x := .tmp t) h1 h2 h5 h8 h3 h4.flat (by unfold maxLen; omega) hb (fun v' X' ho hn => ⟨X', rfl, rfl, ho, hn⟩) a w0 ha hst) ?_
  rintro v' w' ⟨J, L', hst', X', rfl, rfl, ho, hnew⟩
  refine ⟨J, _, hst', Le.refl J, .raw v', _, rfl, h7 J (true, .own E v' (l ++ m)) X' (Le.refl J) ⟨⟨xs ++ news, by rw [List.length_append]; exact ho, h9.append h4⟩, fun _ p hp => ?_⟩, k v'⟩
  rcases hnew p hp with h | h
  · obtain ⟨q, hq, hqe⟩ := List.mem_map.1 h
    rw [← hqe]; exact hfr q hq
  · exact h
/-- An operation that makes one block. -/
theorem OpX.push {ρ : Env} {I : Im} {L : Lh} {KX : Value → Im → Lh → Prop} {o : Oper} (h : ∀ a w, Fits N ρ a → Mem I L w → (∃ v, (execOp a.eval o).run P w = .ok (.value v) w ∧ KX v I []) ∨
    ∃ v w' ob, (execOp a.eval o).run P w = .ok (.value v) w' ∧ w'.heap = w.heap.push ob ∧ w'.os = w.os ∧ w'.tape = w.tape ∧ w'.output = w.output ∧ KX v I [[(w.heap.size, ob)]]) : OpX P N o ρ I L KX := fun a w ha hm => by
  rcases h a w ha hm with ⟨v, hr, hk⟩ | ⟨v, w', ob, hr, hw, h1, h2, h3, hk⟩
  · rw [hr]; exact ⟨I, [], Chg.refl _ _, Le.refl _, fun b h0 h1 => absurd h0 h1, hm, by simp, hk⟩
  · rw [hr]
    have hnI : I w.heap.size = none := by
      cases hi : I w.heap.size with
      | none => rfl
      | some o => have := lt_of_get (hm.im _ _ hi); omega
    have hnew : w'.heap[w.heap.size]? = some ob := by rw [hw]; simp
    have hold : ∀ k, k < w.heap.size → w'.heap[k]? = w.heap[k]? := fun k hk => by
      rw [hw, Array.getElem?_push_lt hk, Array.getElem?_eq_getElem hk]
    refine ⟨I, [[(w.heap.size, ob)]], ⟨h1, h2, h3, by rw [hw]; simp, fun k hk _ => hold k hk⟩, Le.refl I, fun b h0 h1 => absurd h0 h1, ⟨fun b o hb => ?_, fun p hp => ?_, fun p hp => ?_, ?_⟩, ?_, hk⟩
    · exact (hold b (lt_of_get (hm.im b o hb))).trans (hm.im b o hb)
    · simp only [List.cons_append, List.nil_append, List.flatten_cons, List.mem_cons] at hp
      rcases hp with rfl | hp
      · exact hnew
      · exact (hold _ (lt_of_get (hm.loc p hp))).trans (hm.loc p hp)
    · simp only [List.cons_append, List.nil_append, List.flatten_cons, List.mem_cons] at hp
      rcases hp with rfl | hp
      · exact hnI
      · exact hm.sep p hp
    · simp only [List.cons_append, List.nil_append, List.flatten_cons, List.map_cons, List.nodup_cons, List.mem_map, not_exists, not_and]
      refine ⟨fun p hp e => ?_, hm.nodup⟩
      have := lt_of_get (hm.loc p hp)
      omega
    · intro p hp; simp at hp; subst hp; exact Nat.le_refl _
/-- Appending to a slice without spare room. -/
theorem OpP.appendC {α : Type} {r : Rep α} {i0 : Inhabited α} {by_ : Nat} {l m : List α} (st : SlT P T E α by_) (hU : (∃ E2, P.underlying U = some (.slice E2)) ∨ P.underlying U = some .string) (hx : EvA C σ H x (.vc l)) (hy : SrcA P C σ H y m)
    (hb : (l.length + m.length) * by_ ≤ 140737488355328) (hn : l.length + m.length ≤ 9223372036854775807) (k : K (.v (l ++ m))) : OpP P N C ⟨d, .call ⟨.builtin .append, #[x, y], #[T, U]⟩, ty, ps, af, g⟩ σ H K := fun ρ I L hs => by
  obtain ⟨u, h1, ⟨a0, rfl⟩, xs, hsl, hrl⟩ := hx ρ I L hs
  obtain ⟨v, news, h2, h3, h4⟩ := hy ρ I L hs
  obtain ⟨inf, zv, e1, e2, e3, e4, e5⟩ := st.elt.info
  refine OpX.frz (OpX.push fun a w ha hm => ?_)
  have hcells : ∀ w', w'.heap = w.heap → (Builtin.firstCells inf.size m.length v).run P w' = .ok news.toArray w' := fun w' hw => by
    have hm' : Mem I L w' := ⟨by rw [hw]; exact hm.im, by rw [hw]; exact hm.loc, hm.sep, hm.nodup⟩
    have := h3.cells w' hm' m.length (Nat.le_refl _)
    rw [← h3.size, List.take_length, ← e3] at this; exact this
  have hboth : (l.length + m.length ≤ l.length → (Builtin.append_ #[T, U] ty #[.slice a0 l.length l.length, v]).run P w = ((match a0 with | some ad => storeCells (ad.add (l.length * inf.size)) news | none => pure ()).run P w).andThen fun _ w' => .ok (.slice a0 (l.length + m.length) l.length) w') ∧
    (l.length < l.length + m.length → ∀ olds, ((Builtin.firstCells inf.size l.length (.slice a0 l.length l.length)).run P w.drew = .ok olds w.drew) →
      (Builtin.append_ #[T, U] ty #[.slice a0 l.length l.length, v]).run P w = .ok (.slice (some ⟨w.heap.size, 0, none⟩) (l.length + m.length) (grownCap w (l.length + m.length) l.length E))
        (w.drew.alloc (.cells (olds ++ news.toArray ++ Builtin.zeroCells zv.cells (grownCap w (l.length + m.length) l.length E - (l.length + m.length))) E))) := by
    rcases hU with ⟨E2, hU⟩ | hU
    · exact run_append_sl st.elt.und e1 e2 hU h3.len hcells hn (by rw [e4]; exact hb)
    · exact run_append_str st.elt.und e1 e2 hU h3.len hcells hn (by rw [e4]; exact hb)
  have hop : ∀ r, (Builtin.append_ #[T, U] ty #[.slice a0 l.length l.length, v]).run P w = r → (execOp a.eval ⟨d, .call ⟨.builtin .append, #[x, y], #[T, U]⟩, ty, ps, af, g⟩).run P w = r.andThen fun v w' => .ok (.value v) w' := fun r hr => by
    simp [execOp, resolve, invoke, builtin, ha.ev h1, ha.ev h2, hr]
  by_cases h0 : m.length = 0
  · have hm0 : m = [] := List.eq_nil_of_length_eq_zero h0
    subst hm0
    have hnw : news = [] := by simpa [repL] using h4
    subst hnw
    left
    refine ⟨.slice a0 l.length l.length, ?_, fun J' hle _ => ⟨rfl, .v (l ++ []), ?_, k⟩⟩
    · rw [hop _ (hboth.1 (by simp))]
      cases a0 <;> simp [storeCells]
    · rw [List.append_nil]
      exact ⟨_, ⟨_, rfl, xs, hsl.mono hle, hrl.mono hle⟩, rfl⟩
  · right
    have hold : (Builtin.firstCells inf.size l.length (.slice a0 l.length l.length)).run P w.drew = .ok xs.toArray w.drew := by
      have hm' : Mem I L w.drew := ⟨hm.im, hm.loc, hm.sep, hm.nodup⟩
      have := (Src.sl (P := P) (L := L) hsl).cells w.drew hm' l.length (Nat.le_refl _)
      rw [← hsl.len, List.take_length, ← e3] at this; exact this
    have hr := hboth.2 (by omega) _ hold
    have hge := grownCap_ge w (l.length + m.length) l.length E
    have hcm : grownCap w (l.length + m.length) l.length E ≤ maxLen := grownCap_le_maxLen w _ _ E (by unfold maxLen; omega)
    refine ⟨.slice (some ⟨w.heap.size, 0, none⟩) (l.length + m.length) (grownCap w (l.length + m.length) l.length E), w.drew.alloc (.cells (xs.toArray ++ news.toArray ++ Builtin.zeroCells zv.cells (grownCap w (l.length + m.length) l.length E - (l.length + m.length))) E),
      .cells (xs.toArray ++ news.toArray ++ Builtin.zeroCells zv.cells (grownCap w (l.length + m.length) l.length E - (l.length + m.length))) E, by rw [hop _ hr]; rfl, rfl, rfl, rfl, rfl, fun J' hle hp => ⟨rfl, .v (l ++ m), ⟨_, ⟨_, rfl, xs ++ news, ?_, (hrl.append h4).mono hle⟩, rfl⟩, k⟩⟩
    have hob := hp (w.heap.size, _) (List.mem_singleton.2 rfl)
    rw [List.length_append]
    refine Sl.of_cells ⟨_, _, _, hob, fun i q hq => ?_⟩ ?_ hge hcm
    · have hi := (List.getElem?_eq_some_iff.1 hq).1
      rw [Nat.zero_add]
      have : (xs.toArray ++ news.toArray ++ Builtin.zeroCells zv.cells (grownCap w (l.length + m.length) l.length E - (l.length + m.length))) = (xs ++ news ++ (Builtin.zeroCells zv.cells (grownCap w (l.length + m.length) l.length E - (l.length + m.length))).toList).toArray := by
        apply Array.ext'; simp
      rw [this, List.getElem?_toArray, List.getElem?_append_left hi]; exact hq
    · rw [List.length_append, hsl.len, h3.size, Nat.add_mul]
end Go.Ab
