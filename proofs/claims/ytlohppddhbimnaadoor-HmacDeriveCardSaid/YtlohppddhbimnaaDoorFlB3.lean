import Derived.Test.YtlohppddhbimnaaDoorFlB2
set_option linter.unusedVariables false
set_option linter.unusedSimpArgs false
namespace Go.Fl
open Go.RowKit

section
variable {P : Program} {C : Ctx} {N : Nat} {ρ : Env} {I : Im} {L : Lh} {φ : Value → Prop} {K : Value → Im → Lh → Prop} {d : Option Nat} {ty : TypeId} {ps : String} {af : Array Edge} {g : Option (Nat × Bool)}
variable {x y z : Operand} {T T2 E : TypeId}

/-! slices of slices -/
theorem run_slice_plain {a : Option Addr} {n c sz l h : Nat} {lo hi : Option Value} (hT : P.underlying T = some (.slice E)) (hs : SizeIs P E sz)
    (hlo : (lo = none ∧ l = 0) ∨ ∃ kd, lo = some (.int kd (l : Int))) (hhi : (hi = none ∧ h = n) ∨ ∃ kd, hi = some (.int kd (h : Int))) (h1 : l ≤ h) (h2 : h ≤ c) (w : World) :
    (Instr.sliceAt T (.slice a n c) lo hi none).run P w = .ok (.slice (if c = l then a else a.map (·.add (l * sz))) (h - l) (c - l)) w := by
  have e1 : (h : Int) ≤ (c : Int) := by omega
  have e2 : (l : Int) ≤ (h : Int) := by omega
  have hsb : (Instr.sliceBounds true n c lo hi none).run P w = .ok (l, h, c) w := by
    rcases hlo with ⟨rfl, rfl⟩ | ⟨kl, rfl⟩ <;> rcases hhi with ⟨rfl, rfl⟩ | ⟨kh, rfl⟩ <;>
      simp [Instr.sliceBounds, Instr.sliceBound, asIntOf, h1, h2]
  simp only [Instr.sliceAt, Instr.slice, Sem.run_bind, run_underlying hT, Result.andThen_ok, hsb, hs.run, Sem.run_pure]
theorem OpV.slice {lo hi : Option Operand} {v : Value} {n sz l h : Nat} {xs : List Value} (hT : P.underlying T = some (.slice E)) (hs : SizeIs P E sz) (hx : ev ρ x = some v) (hv : Sl I sz v n xs)
    (hlo : (lo = none ∧ l = 0) ∨ ∃ kd o, lo = some o ∧ ev ρ o = some (.int kd (l : Int))) (hhi : (hi = none ∧ h = n) ∨ ∃ kd o, hi = some o ∧ ev ρ o = some (.int kd (h : Int))) (h1 : l ≤ h) (h2 : h ≤ n)
    (k : ∀ v', Sl I sz v' (h - l) ((xs.take (h * sz)).drop (l * sz)) → φ v') : OpV P N ⟨d, .slice T x lo hi none, ty, ps, af, g⟩ ρ I L φ := by
  obtain ⟨a, c, rfl, hl, hnc, hcm, hnone, hcells⟩ := hv
  refine .mk (k (.slice (if c = l then a else a.map (·.add (l * sz))) (h - l) (c - l)) ?_) fun ac w ha hm => ?_
  · have hmul : (h - l) * sz = h * sz - l * sz := Nat.sub_mul _ _ _
    have hle : h * sz ≤ n * sz := Nat.mul_le_mul_right _ h2
    refine ⟨_, _, rfl, by rw [List.length_drop, List.length_take, hl, hmul]; omega, by omega, by unfold maxLen at *; omega, fun hn => ?_, fun hne => ?_⟩
    · split at hn
      · omega
      · have := hnone (by simpa using hn); omega
    · have hxs : xs ≠ [] := by intro e; subst e; simp at hne
      obtain ⟨b, o, rfl, hc⟩ := hcells hxs
      have hcl : c ≠ l := by
        intro e
        apply hne
        apply List.eq_nil_of_length_eq_zero
        rw [List.length_drop, List.length_take, hl]
        have : h = l := by omega
        subst this
        omega
      rw [if_neg hcl]
      refine ⟨b, o + l * sz, by simp [Addr.add_plain], hc.sub (l * sz) fun i u hu => ?_⟩
      rw [List.getElem?_drop, List.getElem?_take] at hu
      split at hu
      · exact hu
      · cases hu
  · have hlo' : ((lo.map ac.eval) = none ∧ l = 0) ∨ ∃ kd, lo.map ac.eval = some (.int kd (l : Int)) := by
      rcases hlo with ⟨rfl, rfl⟩ | ⟨kd, o, rfl, ho⟩
      · exact .inl ⟨rfl, rfl⟩
      · exact .inr ⟨kd, by simp [ha.ev ho]⟩
    have hhi' : ((hi.map ac.eval) = none ∧ h = n) ∨ ∃ kd, hi.map ac.eval = some (.int kd (h : Int)) := by
      rcases hhi with ⟨rfl, rfl⟩ | ⟨kd, o, rfl, ho⟩
      · exact .inl ⟨rfl, rfl⟩
      · exact .inr ⟨kd, by simp [ha.ev ho]⟩
    simp [execOp, ha.ev hx, run_slice_plain hT hs hlo' hhi' h1 (Nat.le_trans h2 hnc) w]
/-- all of an array -/
theorem OpV.sliceArr {n sz b o : Nat} {ag : Bool} (hf : elemOff P T = some (n, sz, ag)) (hx : ev ρ x = some (ptr b o)) (k : φ (slc b o n n)) : OpV P N ⟨d, .slice T x none none none, ty, ps, af, g⟩ ρ I L φ :=
  .mk k fun a w ha hm => by
    unfold elemOff at hf
    split at hf
    · rename_i m e hu
      split at hf
      · rename_i inf dd h2 h3
        simp only [Option.some.injEq, Prod.mk.injEq] at hf
        obtain ⟨rfl, h4, _⟩ := hf
        have hs : SizeIs P e sz := by simp [SizeIs, h2, h4]
        simp [execOp, ha.ev hx, Instr.sliceAt, run_underlying hu, Instr.sureAddr, Instr.sliceBounds, hs.run, Addr.add_plain]
      · cases hf
    · cases hf
theorem OpV.sliceStr {lo hi : Option Operand} {s : ByteArray} {l h : Nat} (hT : P.underlying T = some .string) (hx : ev ρ x = some (.string s))
    (hlo : (lo = none ∧ l = 0) ∨ ∃ kd o, lo = some o ∧ ev ρ o = some (.int kd (l : Int))) (hhi : (hi = none ∧ h = s.size) ∨ ∃ kd o, hi = some o ∧ ev ρ o = some (.int kd (h : Int))) (h1 : l ≤ h) (h2 : h ≤ s.size)
    (k : φ (.string (s.extract l h))) : OpV P N ⟨d, .slice T x lo hi none, ty, ps, af, g⟩ ρ I L φ :=
  .mk k fun ac w ha hm => by
    have e1 : (h : Int) ≤ (s.size : Int) := by omega
    have e2 : (l : Int) ≤ (h : Int) := by omega
    have hlo' : ((lo.map ac.eval) = none ∧ l = 0) ∨ ∃ kd, lo.map ac.eval = some (.int kd (l : Int)) := by
      rcases hlo with ⟨rfl, rfl⟩ | ⟨kd, o, rfl, ho⟩
      · exact .inl ⟨rfl, rfl⟩
      · exact .inr ⟨kd, by simp [ha.ev ho]⟩
    have hhi' : ((hi.map ac.eval) = none ∧ h = s.size) ∨ ∃ kd, hi.map ac.eval = some (.int kd (h : Int)) := by
      rcases hhi with ⟨rfl, rfl⟩ | ⟨kd, o, rfl, ho⟩
      · exact .inl ⟨rfl, rfl⟩
      · exact .inr ⟨kd, by simp [ha.ev ho]⟩
    have hsb : (Instr.sliceBounds false s.size s.size (lo.map ac.eval) (hi.map ac.eval) none).run P w = .ok (l, h, s.size) w := by
      rcases hlo' with ⟨e, rfl⟩ | ⟨kl, e⟩ <;> rcases hhi' with ⟨e', rfl⟩ | ⟨kh, e'⟩ <;> rw [e, e'] <;>
        simp [Instr.sliceBounds, Instr.sliceBound, asIntOf, h1, h2]
    simp [execOp, ha.ev hx, Instr.sliceAt, Instr.slice, run_underlying hT, hsb]

/-! new memory -/
def zerosOf (P : Program) (T : TypeId) : Option (List Value) := ((P.info? T).bind (·.zero)).map (·.cells.toList)
theorem zeros_run {zs : List Value} (h : zerosOf P T = some zs) (w : World) : ∃ z, (zeroValue T).run P w = .ok z w ∧ z.cells = zs.toArray := by
  unfold zerosOf at h
  cases hq : P.info? T with
  | none => simp [hq] at h
  | some i =>
    cases hz : i.zero with
    | none => simp [hq, hz] at h
    | some z =>
      refine ⟨z, by simp [zeroValue, typeInfo, hq, hz], ?_⟩
      simp [hq, hz] at h
      rw [← h]
theorem opx_new {o : Oper} {cs : List Value} {e : TypeId} {v : Nat → Value} (h : ∀ a w, Fits N ρ a → Mem I L w → (execOp a.eval o).run P w = .ok (.value (v w.heap.size)) (w.alloc (row cs e)))
    (k : ∀ b, K (v b) I [[(b, row cs e)]]) : OpX P N o ρ I L K := fun a w ha hm => by
  rw [h a w ha hm]
  have hnew : (w.alloc (row cs e)).heap[w.heap.size]? = some (row cs e) := heap_alloc_new w _
  have hold : ∀ b, b < w.heap.size → (w.alloc (row cs e)).heap[b]? = w.heap[b]? := fun b hb => heap_alloc_old w _ hb
  refine ⟨I, [[(w.heap.size, row cs e)]], ⟨rfl, rfl, rfl, by simp, fun k hk _ => hold k hk⟩, Le.refl _, fun b h0 h1 => absurd h0 h1, ⟨fun b o hb => ?_, fun p hp => ?_, fun p hp => ?_, ?_⟩, ?_, k _⟩
  · exact (hold b (lt_of_get (hm.im b o hb))).trans (hm.im b o hb)
  · simp only [List.cons_append, List.nil_append, List.flatten_cons, List.mem_cons] at hp
    rcases hp with rfl | hp
    · exact hnew
    · exact (hold _ (lt_of_get (hm.loc p hp))).trans (hm.loc p hp)
  · simp only [List.cons_append, List.nil_append, List.flatten_cons, List.mem_cons] at hp
    rcases hp with rfl | hp
    · cases hi : I w.heap.size with
      | none => rfl
      | some o => have := lt_of_get (hm.im _ o hi); omega
    · exact hm.sep p hp
  · simp only [List.cons_append, List.nil_append, List.flatten_cons, List.map_cons, List.nodup_cons, List.mem_map, not_exists, not_and]
    refine ⟨fun p hp e => ?_, hm.nodup⟩
    have := lt_of_get (hm.loc p hp)
    omega
  · intro p hp; simp at hp; subst hp; exact Nat.le_refl _
theorem OpX.alloc {zs : List Value} (hz : zerosOf P T = some zs) (k : ∀ b, K (ptr b 0) I [[(b, row zs T)]]) : OpX P N ⟨d, .alloc T, ty, ps, af, g⟩ ρ I L K :=
  opx_new (v := fun b => ptr b 0) (fun a w ha hm => by
    obtain ⟨z, h1, h2⟩ := zeros_run hz w
    simp only [execOp, Instr.alloc, Sem.run_bind, h1, Result.andThen_ok, newVar, newRow, h2, newObj, Sem.run, Sem.run_pure]
    rfl) k
theorem OpX.box {v : Value} {cs : List Value} (hx : ev ρ x = some v) (hv : v.cells.toList = cs) (k : ∀ b, K (ptr b 0) I [[(b, row cs T)]]) : OpX P N ⟨d, .box T x, ty, ps, af, g⟩ ρ I L K :=
  opx_new (v := fun b => ptr b 0) (fun a w ha hm => by
    have : v.cells = cs.toArray := by rw [← hv]
    simp only [execOp, Instr.box, Sem.run_bind, ha.ev hx, Result.andThen_ok, newVar, newRow, this, newObj, Sem.run, Sem.run_pure]
    rfl) k
def evP (ρ : Env) : List (Nat × Operand) → Option (List (Nat × Value))
  | [] => some []
  | p :: r => match ev ρ p.2, evP ρ r with
    | some v, some l => some ((p.1, v) :: l)
    | _, _ => none
theorem Fits.evP {a : Act} (h : Fits N ρ a) : ∀ {l : List (Nat × Operand)} {vs : List (Nat × Value)}, evP ρ l = some vs → l.map (fun p => (p.1, a.eval p.2)) = vs
  | [], vs, hl => by simp [Fl.evP] at hl; subst hl; rfl
  | p :: r, vs, hl => by
    simp only [Fl.evP] at hl
    cases hx : Fl.ev ρ p.2 with
    | none => simp [hx] at hl
    | some v =>
      cases hr : Fl.evP ρ r with
      | none => simp [hx, hr] at hl
      | some l =>
        simp [hx, hr] at hl
        subst hl
        simp [h.ev hx, h.evP hr]
/-- Parts put side by side, each sz cells, from the first on. -/
def sideBySide (sz : Nat) : Nat → List (Nat × Value) → Option (List Value)
  | _, [] => some []
  | i, p :: r => bif Nat.beq p.1 i && Nat.beq p.2.cells.size sz then (sideBySide sz (i + 1) r).map (p.2.cells.toList ++ ·) else none
theorem segSet_get {cs : List Value} {o : Nat} {vs : List Value} (h : o ≤ cs.length) (i : Nat) : (segSet cs o vs)[i]? = if i < o then cs[i]? else if i < o + vs.length then vs[i - o]? else cs[i]? := by
  have h1 : (cs.take o).length = o := by simp; omega
  simp only [segSet, List.append_assoc]
  by_cases hi : i < o
  · rw [if_pos hi, List.getElem?_append_left (by omega), List.getElem?_take, if_pos hi]
  · rw [if_neg hi, List.getElem?_append_right (by omega), h1]
    by_cases h2 : i < o + vs.length
    · rw [if_pos h2, List.getElem?_append_left (by omega)]
    · rw [if_neg h2, List.getElem?_append_right (by omega), List.getElem?_drop]
      congr 1
      omega
theorem fill_seg {cells vs : Array Value} {off : Nat} (h : off + vs.size ≤ cells.size) : (vs.zipIdx.foldl (fun cs (c, j) => cs.setIfInBounds (off + j) c) cells).toList = segSet cells.toList off vs.toList := by
  have key : ∀ (l : List Value) (k : Nat) (cs : Array Value), off + k + l.length ≤ cs.size →
      ((l.zipIdx k).foldl (fun cs (p : Value × Nat) => cs.setIfInBounds (off + p.2) p.1) cs).toList = segSet cs.toList (off + k) l := by
    intro l
    induction l with
    | nil => intro k cs _; simp [segSet]
    | cons v r ih =>
      intro k cs hl
      simp only [List.zipIdx_cons, List.foldl_cons]
      simp only [List.length_cons] at hl
      rw [ih (k + 1) _ (by simp; omega)]
      apply List.ext_getElem?
      intro i
      rw [segSet_get (by simp; omega), segSet_get (by simp; omega)]
      simp only [Array.toList_setIfInBounds, List.getElem?_set, List.length_cons, Array.length_toList]
      by_cases h1 : i < off + k
      · rw [if_pos (by omega), if_pos h1, if_neg (by omega)]
      · rw [if_neg h1]
        by_cases h2 : i = off + k
        · subst h2
          rw [if_pos (by omega), if_pos rfl, if_pos (by omega), if_pos (by omega)]
          simp
        · rw [if_neg (by omega)]
          by_cases h3 : i < off + (k + 1) + r.length
          · rw [if_pos h3, if_pos (by omega), show i - (off + k) = (i - (off + (k + 1))) + 1 by omega]
            simp
          · rw [if_neg h3, if_neg (by omega), if_neg (by omega)]
  have := key vs.toList 0 cells (by simpa using h)
  rw [← Array.foldl_toList]
  simpa using this
theorem fill_side {sz : Nat} : ∀ (pv : List (Nat × Value)) (i : Nat) (cells : Array Value) (vs : List Value), sideBySide sz i pv = some vs → i * sz + vs.length ≤ cells.size →
    ∃ out, Instr.fill (fun i => some (i * sz, sz)) cells pv = some out ∧ out.toList = segSet cells.toList (i * sz) vs
  | [], i, cells, vs, h, hl => by simp [sideBySide] at h; subst h; exact ⟨cells, rfl, by simp [segSet]⟩
  | p :: r, i, cells, vs, h, hl => by
    unfold sideBySide at h
    cases hb : (Nat.beq p.1 i && Nat.beq p.2.cells.size sz) with
    | false => simp [hb] at h
    | true =>
      simp only [hb, cond_true] at h
      simp only [Bool.and_eq_true] at hb
      have hp1 : p.1 = i := Nat.eq_of_beq_eq_true hb.1
      have hp2 : p.2.cells.size = sz := Nat.eq_of_beq_eq_true hb.2
      cases hr : sideBySide sz (i + 1) r with
      | none => simp [hr] at h
      | some us =>
        simp [hr] at h
        subst h
        have hlen : (p.2.cells.toList ++ us).length = sz + us.length := by simp [hp2]
        rw [hlen] at hl
        have hseg := fill_seg (cells := cells) (vs := p.2.cells) (off := i * sz) (by omega)
        obtain ⟨pi, pv⟩ := p
        simp only at hp1 hp2 hseg
        subst hp1
        obtain ⟨out, h1, h2⟩ := fill_side r (pi + 1) (pv.cells.zipIdx.foldl (fun cs (c, j) => cs.setIfInBounds (pi * sz + j) c) cells) us hr (by
          have : (pv.cells.zipIdx.foldl (fun cs (c, j) => cs.setIfInBounds (pi * sz + j) c) cells).size = cells.size := by
            rw [← Array.length_toList, hseg, segSet_length _ _ _ (by simp; omega)]; simp
          rw [this, Nat.succ_mul]
          omega)
        refine ⟨out, ?_, ?_⟩
        · simp only [Instr.fill]
          rw [if_neg (by simp [hp2]; omega)]
          exact h1
        · rw [h2, hseg]
          have hz : pv.cells.toList.length = sz := by simpa using hp2
          have hsl := segSet_length cells.toList (pi * sz) pv.cells.toList (by simp [hp2]; omega)
          simp only [Array.length_toList] at hsl
          apply List.ext_getElem?
          intro i
          simp only [Nat.succ_mul] at *
          rw [segSet_get (by rw [hsl]; omega), segSet_get (by simp; omega), segSet_get (by simp; omega), hlen, hz]
          by_cases h3 : i < pi * sz
          · rw [if_pos (by omega), if_pos h3, if_pos h3]
          · rw [if_neg h3, if_neg h3]
            by_cases h4 : i < pi * sz + sz
            · rw [if_pos h4, if_pos h4, if_pos (by omega), List.getElem?_append_left (by omega)]
            · rw [if_neg h4]
              by_cases h5 : i < pi * sz + sz + us.length
              · rw [if_pos h5, if_pos (by omega), List.getElem?_append_right (by omega), hz]
                congr 1
                omega
              · rw [if_neg h5, if_neg h4, if_neg (by omega)]
theorem OpX.buildSlice {n sz : Nat} {zs vs : List Value} {parts : Array (Nat × Operand)} {pv : List (Nat × Value)} (hT : P.underlying T = some (.slice E)) (hs : SizeIs P E sz) (hz : zerosOf P E = some zs) (hzl : zs.length = sz)
    (hp : evP ρ parts.toList = some pv) (hside : sideBySide sz 0 pv = some vs) (hlen : vs.length = n * sz) (hn : n * sz ≤ 16777216) (k : ∀ b, K (slc b 0 n n) I [[(b, row vs E)]]) :
    OpX P N ⟨d, .buildSlice T n parts, ty, ps, af, g⟩ ρ I L K :=
  opx_new (v := fun b => slc b 0 n n) (fun a w ha hm => by
    obtain ⟨zv, h1, h2⟩ := zeros_run hz w
    have hparts : (parts.map fun (i, x) => (i, a.eval x)).toList = pv := by rw [Array.toList_map]; exact ha.evP hp
    have hn' : ¬ (16777216 < n * sz) := by omega
    obtain ⟨zero, hzero, hzsz⟩ : ∃ zero : Array Value, (if n * sz = 0 then (pure #[] : Sem (Array Value)) else do pure (← zeroValue E).cells).run P w = .ok zero w ∧ (n * sz ≠ 0 → zero.size = sz) := by
      by_cases h0 : n * sz = 0
      · exact ⟨#[], by simp [h0], fun h => absurd h0 h⟩
      · exact ⟨zv.cells, by simp [h0, h1], fun _ => by rw [h2]; simpa using hzl⟩
    obtain ⟨out, ho1, ho2⟩ := fill_side (sz := sz) pv 0 ((Array.range (n * sz)).map (zero[· % zero.size]!)) vs hside (by simp [hlen])
    have ho3 : out = vs.toArray := by
      apply Array.ext'
      rw [ho2]
      simp [segSet, hlen]
    simp only [execOp, Instr.buildSlice, Sem.run_bind, run_underlying hT, Result.andThen_ok, hs.run]
    rw [if_neg hn']
    have hparts2 : (parts.map fun x => (x.1, a.eval x.2)).toList = pv := hparts
    by_cases h0 : n * sz = 0
    · rw [if_pos h0] at hzero
      have hz0 : #[] = zero := by simp only [Sem.run_pure, Result.ok.injEq] at hzero; exact hzero.1
      subst hz0
      rw [if_pos h0]
      simp only [Sem.run_bind, Sem.run_pure, Result.andThen_ok, hparts2, ho1, newRow, newObj, Sem.run, ho3]
      rfl
    · have hz0 : zv.cells = zero := by
        rw [if_neg h0] at hzero
        simp only [Sem.run_bind, h1, Result.andThen_ok, Sem.run_pure, Result.ok.injEq] at hzero
        exact hzero.1
      subst hz0
      rw [if_neg h0]
      simp only [Sem.run_bind, Sem.run_pure, h1, Result.andThen_ok, hparts2, ho1, newRow, newObj, Sem.run, ho3]
      rfl) k
theorem madeCells_one (z : Value) (n : Nat) : madeCells #[z] n = (List.replicate n z).toArray := by
  apply Array.ext'
  unfold madeCells
  simp
  apply List.ext_getElem?
  intro i
  simp [List.getElem?_replicate]
  by_cases h : i < n <;> simp [h, Nat.mod_one]
theorem OpX.make1 {n : Nat} {zv : Value} {inf : TypeInfo} {kd : IntKind} (hT : P.underlying T = some (.slice E)) (hi : P.info? E = some inf) (hsz : inf.size = 1) (hz : inf.zero = some zv) (hz1 : zv.cells = #[zv])
    (hx : ev ρ x = some (.int kd (n : Int))) (hb : inf.bytes * n ≤ 281474976710656) (hn : n ≤ 9223372036854775807) (k : ∀ b, K (slc b 0 n n) I [[(b, row (List.replicate n zv) E)]]) :
    OpX P N ⟨d, .makeSlice T x x, ty, ps, af, g⟩ ρ I L K :=
  opx_new (v := fun b => slc b 0 n n) (fun a w ha hm => by
    have h3 : ((inf.bytes * n : Nat) : Int) ≤ 281474976710656 := Int.ofNat_le.2 hb
    rw [Int.natCast_mul] at h3
    have h := run_make (P := P) w T E inf zv hT hi hz kd kd n n (by omega) (Int.le_refl _) h3 (by omega)
    simp only [execOp, Sem.run_bind, ha.ev hx, h, Result.andThen_ok, Sem.run_pure, hz1, hsz]
    simp only [Int.toNat_natCast, Nat.mul_one, madeCells_one]) k
end
end Go.Fl
