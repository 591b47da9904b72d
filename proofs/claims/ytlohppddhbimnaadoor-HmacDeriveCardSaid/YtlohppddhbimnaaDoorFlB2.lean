import Derived.Test.YtlohppddhbimnaaDoorFlB1
set_option linter.unusedVariables false
set_option linter.unusedSimpArgs false
namespace Go.Fl
open Go.RowKit

abbrev row (cs : List Value) (e : TypeId) : Obj := .cells cs.toArray e (0, 0)
abbrev ptr (b o : Nat) : Value := .pointer (some ⟨b, o, none⟩)
abbrev slc (b o n c : Nat) : Value := .slice (some ⟨b, o, none⟩) n c
def segSet (cs : List Value) (o : Nat) (vs : List Value) : List Value := cs.take o ++ vs ++ cs.drop (o + vs.length)
def segGet (cs : List Value) (o n : Nat) : List Value := (cs.drop o).take n
theorem segGet_all (cs : List Value) : segGet cs 0 cs.length = cs := by simp [segGet]
theorem segSet_all (cs vs : List Value) (h : vs.length = cs.length) : segSet cs 0 vs = vs := by simp [segSet, h]
theorem segSet_length (cs : List Value) (o : Nat) (vs : List Value) (h : o + vs.length ≤ cs.length) : (segSet cs o vs).length = cs.length := by simp [segSet]; omega
theorem segSet_one (cs : List Value) (o : Nat) (v : Value) (h : o < cs.length) : segSet cs o [v] = cs.set o v := by
  simp only [segSet, List.length_singleton]
  rw [List.set_eq_take_append_cons_drop, if_pos h]
  simp
theorem segSet_append (xs sp : List Value) (o : Nat) (vs : List Value) (h : o + vs.length ≤ xs.length) : segSet (xs ++ sp) o vs = segSet xs o vs ++ sp := by
  simp only [segSet]
  rw [List.take_append_of_le_length (by omega), List.drop_append_of_le_length (by omega)]
  simp

/-- The cells xs lie in block b from o on, and do not turn. -/
def Cells (I : Im) (b o : Nat) (xs : List Value) : Prop := ∃ cs e fr, I b = some (.cells cs e fr) ∧ ∀ i v, xs[i]? = some v → cs[o + i]? = some v
theorem Cells.mono {I J : Im} {b o : Nat} {xs : List Value} (h : Cells I b o xs) (hle : Le I J) : Cells J b o xs := by
  obtain ⟨cs, e, fr, h1, h2⟩ := h
  exact ⟨cs, e, fr, hle _ _ h1, h2⟩
theorem Cells.of_row {I : Im} {b : Nat} {cs : List Value} {e : TypeId} (h : I b = some (row cs e)) : Cells I b 0 cs := ⟨_, _, _, h, fun i v hv => by simpa using hv⟩
theorem Cells.sub {I : Im} {b o : Nat} {xs ys : List Value} (k : Nat) (h : Cells I b o xs) (hs : ∀ i v, ys[i]? = some v → xs[k + i]? = some v) : Cells I b (o + k) ys := by
  obtain ⟨cs, e, fr, h1, h2⟩ := h
  exact ⟨cs, e, fr, h1, fun i v hv => by rw [Nat.add_assoc]; exact h2 _ _ (hs i v hv)⟩
theorem cell_of {w : World} {b o : Nat} {cs : Array Value} {e : TypeId} {fr : Nat × Nat} (h : w.heap[b]? = some (.cells cs e fr)) : w.cell? ⟨b, o, none⟩ = cs[o]? := by simp [World.cell?, h]
theorem Cells.cell {I : Im} {L : Lh} {w : World} {b o : Nat} {xs : List Value} (h : Cells I b o xs) (hm : Mem I L w) {i : Nat} {v : Value} (hv : xs[i]? = some v) : w.cell? ⟨b, o + i, none⟩ = some v := by
  obtain ⟨cs, e, fr, h1, h2⟩ := h
  rw [cell_of (hm.im _ _ h1)]
  exact h2 i v hv

/-- A slice of n elements of s cells each: the cells are xs, and do not turn. -/
def Sl (I : Im) (s : Nat) (v : Value) (n : Nat) (xs : List Value) : Prop :=
  ∃ a c, v = .slice a n c ∧ xs.length = n * s ∧ n ≤ c ∧ c ≤ maxLen ∧ (a = none → c = 0) ∧ (xs ≠ [] → ∃ b o, a = some ⟨b, o, none⟩ ∧ Cells I b o xs)
theorem Sl.mono {I J : Im} {s : Nat} {v : Value} {n : Nat} {xs : List Value} (h : Sl I s v n xs) (hle : Le I J) : Sl J s v n xs := by
  obtain ⟨a, c, h1, h2, h3, h4, h5, h6⟩ := h
  exact ⟨a, c, h1, h2, h3, h4, h5, fun hx => by obtain ⟨b, o, ha, hc⟩ := h6 hx; exact ⟨b, o, ha, hc.mono hle⟩⟩
theorem Sl.nil (I : Im) (s : Nat) : Sl I s (.slice none 0 0) 0 [] := ⟨none, 0, rfl, by simp, Nat.le_refl _, by simp [maxLen], fun _ => rfl, fun h => absurd rfl h⟩
theorem Sl.open {I : Im} {s : Nat} {v : Value} {n : Nat} {xs : List Value} (h : Sl I s v n xs) (hx : xs ≠ []) : ∃ b o c, v = slc b o n c ∧ Cells I b o xs ∧ n ≤ c ∧ c ≤ maxLen := by
  obtain ⟨a, c, h1, h2, h3, h4, h5, h6⟩ := h
  obtain ⟨b, o, rfl, hc⟩ := h6 hx
  exact ⟨b, o, c, h1, hc, h3, h4⟩
theorem Sl.shape {I : Im} {s : Nat} {v : Value} {n : Nat} {xs : List Value} (h : Sl I s v n xs) : ∃ a c, v = .slice a n c ∧ n ≤ c ∧ c ≤ maxLen := by
  obtain ⟨a, c, h1, h2, h3, h4, h5, h6⟩ := h
  exact ⟨a, c, h1, h3, h4⟩
theorem Sl.len {I : Im} {s : Nat} {v : Value} {n : Nat} {xs : List Value} (h : Sl I s v n xs) : xs.length = n * s := by
  obtain ⟨a, c, h1, h2, h3, h4, h5, h6⟩ := h
  exact h2
theorem Sl.of_cells {I : Im} {s b o n c : Nat} {xs : List Value} (h : Cells I b o xs) (hl : xs.length = n * s) (h1 : n ≤ c) (h2 : c ≤ maxLen) : Sl I s (slc b o n c) n xs :=
  ⟨_, c, rfl, hl, h1, h2, (fun h => by cases h), fun _ => ⟨b, o, rfl, h⟩⟩

/-- A slice of the call's own, with room behind it or none: chunk X. -/
def Own (e : TypeId) (s : Nat) (v : Value) (n : Nat) (xs : List Value) (X : List (Nat × Obj)) : Prop :=
  (v = .slice none 0 0 ∧ n = 0 ∧ xs = [] ∧ X = []) ∨
  ∃ b c sp, v = slc b 0 n c ∧ X = [(b, row (xs ++ sp) e)] ∧ xs.length = n * s ∧ (xs ++ sp).length = c * s ∧ n ≤ c ∧ c ≤ maxLen
theorem Own.nil (e : TypeId) (s : Nat) : Own e s (.slice none 0 0) 0 [] [] := .inl ⟨rfl, rfl, rfl, rfl⟩
theorem Own.made {e : TypeId} {s b n : Nat} {xs : List Value} (h : xs.length = n * s) (hn : n ≤ maxLen) : Own e s (slc b 0 n n) n xs [(b, row xs e)] :=
  .inr ⟨b, n, [], rfl, by simp, h, by simpa using h, Nat.le_refl _, hn⟩
theorem Own.sl {e : TypeId} {s : Nat} {v : Value} {n : Nat} {xs : List Value} {X : List (Nat × Obj)} (h : Own e s v n xs X) {J : Im} (hJ : ∀ p ∈ X, J p.1 = some p.2) : Sl J s v n xs := by
  rcases h with ⟨rfl, rfl, rfl, rfl⟩ | ⟨b, c, sp, rfl, rfl, h1, h2, h3, h4⟩
  · exact Sl.nil J s
  · refine Sl.of_cells ?_ h1 h3 h4
    have := Cells.of_row (hJ (b, row (xs ++ sp) e) (by simp))
    have h5 := this.sub (ys := xs) 0 (fun i v hv => by
      rw [Nat.zero_add, List.getElem?_append_left (List.getElem?_eq_some_iff.1 hv).1]; exact hv)
    simpa using h5
theorem Own.shape {e : TypeId} {s : Nat} {v : Value} {n : Nat} {xs : List Value} {X : List (Nat × Obj)} (h : Own e s v n xs X) : ∃ a c, v = .slice a n c := by
  rcases h with ⟨rfl, rfl, rfl, rfl⟩ | ⟨b, c, sp, rfl, rfl, h1, h2, h3, h4⟩
  · exact ⟨_, _, rfl⟩
  · exact ⟨_, _, rfl⟩
theorem Own.len {e : TypeId} {s : Nat} {v : Value} {n : Nat} {xs : List Value} {X : List (Nat × Obj)} (h : Own e s v n xs X) : xs.length = n * s := by
  rcases h with ⟨rfl, rfl, rfl, rfl⟩ | ⟨b, c, sp, rfl, rfl, h1, h2, h3, h4⟩
  · simp
  · exact h1

def isRow : TypeDesc → Bool
  | .struct _ | .array _ _ => true
  | _ => false
def SizeIs (P : Program) (T : TypeId) (n : Nat) : Prop := (P.info? T).map (·.size) = some n
theorem SizeIs.of {P : Program} {T : TypeId} {n : Nat} (h : (P.info? T).map (·.size) = some n) : SizeIs P T n := h
theorem SizeIs.run {P : Program} {T : TypeId} {n : Nat} (h : SizeIs P T n) (w : World) : (sizeOf T).run P w = .ok n w := by
  unfold SizeIs at h
  cases hq : P.info? T with
  | none => simp [hq] at h
  | some i => simp [hq] at h; simp [sizeOf, typeInfo, hq, h]
/-- Of field i of struct T: where it lies, how many cells it has, whether it is a row. -/
def fieldOff (P : Program) (T : TypeId) (i : Nat) : Option (Nat × Nat × Bool) :=
  match P.underlying T with
  | some (.struct fs) => match fs[i]? with
    | some f => match P.info? f.type, P.underlying f.type with
      | some inf, some dd => some (f.offset, inf.size, isRow dd)
      | _, _ => none
    | none => none
  | _ => none
/-- Of the elements of array T: how many, how many cells each, whether they are rows. -/
def elemOff (P : Program) (T : TypeId) : Option (Nat × Nat × Bool) :=
  match P.underlying T with
  | some (.array n e) => match P.info? e, P.underlying e with
    | some inf, some dd => some (n, inf.size, isRow dd)
    | _, _ => none
  | _ => none
theorem run_isAgg {P : Program} {T : TypeId} {dd : TypeDesc} (h : P.underlying T = some dd) (w : World) : (isAgg T).run P w = .ok (isRow dd) w := by
  unfold isAgg
  rw [Sem.run_bind, run_underlying h]
  cases dd <;> rfl
theorem Addr.add_plain (b o j : Nat) : (⟨b, o, none⟩ : Addr).add j = ⟨b, o + j, none⟩ := by unfold Addr.add; split <;> simp_all

section
variable {P : Program} {C : Ctx} {N : Nat} {ρ : Env} {I : Im} {L : Lh} {φ : Value → Prop} {d : Option Nat} {ty : TypeId} {ps : String} {af : Array Edge} {g : Option (Nat × Bool)}
variable {x y z : Operand} {T T2 E : TypeId}

/-! addresses -/
theorem OpV.fieldAddr {i off sz b o : Nat} {ag : Bool} (hf : fieldOff P T i = some (off, sz + 1, ag)) (hx : ev ρ x = some (ptr b o)) (k : φ (ptr b (o + off))) : OpV P N ⟨d, .fieldAddr T x i, ty, ps, af, g⟩ ρ I L φ :=
  .mk k fun a w ha _ => by
    unfold fieldOff at hf
    split at hf
    · rename_i fs hu
      split at hf
      · rename_i f hfi
        split at hf
        · rename_i inf dd h1 h2
          simp only [Option.some.injEq, Prod.mk.injEq] at hf
          obtain ⟨rfl, h3, _⟩ := hf
          have hs : SizeIs P f.type (sz + 1) := by simp [SizeIs, h1, h3]
          simp [execOp, ha.ev hx, Instr.fieldAt, run_underlying hu, hfi, Instr.sureAddr, fieldPlace, hs.run, Addr.add_plain]
        · cases hf
      · cases hf
    · cases hf
theorem OpV.indexAddrA {n sz b o : Nat} {ag : Bool} {kd : IntKind} {i : Int} (hf : elemOff P T = some (n, sz, ag)) (hx : ev ρ x = some (ptr b o)) (hy : ev ρ y = some (.int kd i)) (h0 : 0 ≤ i) (h1 : i < n)
    (k : φ (ptr b (o + i.toNat * sz))) : OpV P N ⟨d, .indexAddr T x y, ty, ps, af, g⟩ ρ I L φ :=
  .mk k fun a w ha _ => by
    unfold elemOff at hf
    split at hf
    · rename_i m e hu
      split at hf
      · rename_i inf dd h2 h3
        simp only [Option.some.injEq, Prod.mk.injEq] at hf
        obtain ⟨rfl, h4, _⟩ := hf
        have hs : SizeIs P e sz := by simp [SizeIs, h2, h4]
        simp [execOp, ha.ev hx, ha.ev hy, Instr.indexAt, asIntOf, run_underlying hu, Instr.sureAddr, h0, h1, hs.run, Addr.add_plain]
      · cases hf
    · cases hf
theorem OpV.indexAddrS {n c sz b o : Nat} {kd : IntKind} {i : Int} (hT : P.underlying T = some (.slice E)) (hs : SizeIs P E sz) (hx : ev ρ x = some (slc b o n c)) (hy : ev ρ y = some (.int kd i)) (h0 : 0 ≤ i) (h1 : i < n)
    (k : φ (ptr b (o + i.toNat * sz))) : OpV P N ⟨d, .indexAddr T x y, ty, ps, af, g⟩ ρ I L φ :=
  .mk k fun a w ha _ => by
    simp [execOp, ha.ev hx, ha.ev hy, Instr.indexAt, asIntOf, run_underlying hT, h0, h1, hs.run, Addr.add_plain]

/-! loads -/
theorem run_load {w : World} {b o : Nat} {v : Value} {dd : TypeDesc} (hT : P.underlying T = some dd) (hd : isRow dd = false) (hc : w.cell? ⟨b, o, none⟩ = some v) : (Instr.loadAt T (ptr b o)).run P w = .ok v w := by
  simp [Instr.loadAt, Instr.sureAddr, loadVar, run_isAgg hT, hd, load, Sem.run, hc]
theorem run_loadA {w : World} {b o : Nat} {vs : List Value} {dd : TypeDesc} (hT : P.underlying T = some dd) (hd : isRow dd = true) (hs : SizeIs P T vs.length) (hc : ∀ j v, vs[j]? = some v → w.cell? ⟨b, o + j, none⟩ = some v) :
    (Instr.loadAt T (ptr b o)).run P w = .ok (.agg vs.toArray) w := by
  have hl : (loadCells ⟨b, o, none⟩ vs.length).run P w = .ok vs.toArray w := run_loadCells_list (P := P) w ⟨b, o, none⟩ vs (fun j v hv => by rw [Addr.add_plain]; exact hc j v hv)
  simp [Instr.loadAt, Instr.sureAddr, loadVar, run_isAgg hT, hd, hs.run, hl]
theorem OpV.loadC {b o off j : Nat} {xs : List Value} {v : Value} {dd : TypeDesc} (hT : P.underlying T = some dd) (hd : isRow dd = false) (hx : ev ρ x = some (ptr b off)) (hc : Cells I b o xs) (ho : off = o + j) (hj : xs[j]? = some v) (k : φ v) :
    OpV P N ⟨d, .load T x, ty, ps, af, g⟩ ρ I L φ := .mk k fun a w ha hm => by
  subst ho
  simp [execOp, ha.ev hx, run_load hT hd (hc.cell hm hj)]
theorem OpV.loadCA {b off : Nat} {vs : List Value} {dd : TypeDesc} (hT : P.underlying T = some dd) (hd : isRow dd = true) (hs : SizeIs P T vs.length) (hx : ev ρ x = some (ptr b off)) (hc : Cells I b off vs) (k : φ (.agg vs.toArray)) :
    OpV P N ⟨d, .load T x, ty, ps, af, g⟩ ρ I L φ := .mk k fun a w ha hm => by
  simp [execOp, ha.ev hx, run_loadA hT hd hs (fun j v hv => hc.cell hm hv)]
theorem chunk_cell {w : World} (hm : Mem I L w) {i b : Nat} {cs : List Value} {e : TypeId} (hL : L[i]? = some [(b, row cs e)]) (o : Nat) : w.cell? ⟨b, o, none⟩ = cs[o]? := by
  have := hm.loc (b, row cs e) (mem_chunk hL (by simp))
  rw [cell_of this]
  simp
theorem OpV.loadL (i : Nat) {b off : Nat} {cs : List Value} {e : TypeId} {v : Value} {dd : TypeDesc} (hT : P.underlying T = some dd) (hd : isRow dd = false) (hx : ev ρ x = some (ptr b off)) (hL : L[i]? = some [(b, row cs e)]) (hj : cs[off]? = some v) (k : φ v) :
    OpV P N ⟨d, .load T x, ty, ps, af, g⟩ ρ I L φ := .mk k fun a w ha hm => by
  simp [execOp, ha.ev hx, run_load hT hd (show w.cell? ⟨b, off, none⟩ = some v by rw [chunk_cell hm hL]; exact hj)]
theorem OpV.loadLA (i : Nat) {b off : Nat} {cs vs : List Value} {e : TypeId} {dd : TypeDesc} (hT : P.underlying T = some dd) (hd : isRow dd = true) (hs : SizeIs P T vs.length) (hx : ev ρ x = some (ptr b off)) (hL : L[i]? = some [(b, row cs e)])
    (hv : segGet cs off vs.length = vs) (k : φ (.agg vs.toArray)) : OpV P N ⟨d, .load T x, ty, ps, af, g⟩ ρ I L φ := .mk k fun a w ha hm => by
  simp [execOp, ha.ev hx, run_loadA hT hd hs (fun j v hj => by
    rw [chunk_cell hm hL]
    rw [← hv, segGet, List.getElem?_take] at hj
    split at hj
    · simpa using hj
    · cases hj)]
/-- the whole block -/
theorem OpV.loadLW (i : Nat) {b : Nat} {cs : List Value} {e : TypeId} {dd : TypeDesc} (hT : P.underlying T = some dd) (hd : isRow dd = true) (hs : SizeIs P T cs.length) (hx : ev ρ x = some (ptr b 0)) (hL : L[i]? = some [(b, row cs e)])
    (k : φ (.agg cs.toArray)) : OpV P N ⟨d, .load T x, ty, ps, af, g⟩ ρ I L φ := .loadLA i hT hd hs hx hL (segGet_all cs) k

/-! parts of values -/
theorem part_run {dd : TypeDesc} {cs : List Value} {off sz : Nat} (hT : P.underlying T = some dd) (hs : SizeIs P T sz) (w : World) :
    (isRow dd = true → (part T cs.toArray off).run P w = .ok (.agg (segGet cs off sz).toArray) w) ∧ (∀ v, isRow dd = false → cs[off]? = some v → (part T cs.toArray off).run P w = .ok v w) := by
  refine ⟨fun hd => ?_, fun v hd hv => ?_⟩
  · have : cs.toArray.extract off (off + sz) = (segGet cs off sz).toArray := by simp [segGet]
    simp only [part, Sem.run_bind, run_isAgg hT, hd, Result.andThen_ok, if_true, hs.run, this, Sem.run_pure]
  · simp [part, run_isAgg hT, hd, hv]
theorem field_run {cs : List Value} {i off sz : Nat} {ag : Bool} (hf : fieldOff P T i = some (off, sz, ag)) (w : World) :
    (ag = true → (Instr.field T (.agg cs.toArray) i).run P w = .ok (.agg (segGet cs off sz).toArray) w) ∧ (∀ v, ag = false → cs[off]? = some v → (Instr.field T (.agg cs.toArray) i).run P w = .ok v w) := by
  unfold fieldOff at hf
  split at hf
  · rename_i fs hu
    split at hf
    · rename_i f hfi
      split at hf
      · rename_i inf dd h1 h2
        simp only [Option.some.injEq, Prod.mk.injEq] at hf
        obtain ⟨rfl, h3, rfl⟩ := hf
        have hs : SizeIs P f.type sz := by simp [SizeIs, h1, h3]
        have := part_run (cs := cs) (off := f.offset) h2 hs w
        refine ⟨fun hd => ?_, fun v hd hv => ?_⟩
        · simp [Instr.field, run_underlying hu, hfi, asAgg, this.1 hd]
        · simp [Instr.field, run_underlying hu, hfi, asAgg, this.2 v hd hv]
      · cases hf
    · cases hf
  · cases hf
theorem OpV.fieldS {cs : List Value} {i off sz : Nat} {v : Value} (hf : fieldOff P T i = some (off, sz, false)) (hx : ev ρ x = some (.agg cs.toArray)) (hv : cs[off]? = some v) (k : φ v) : OpV P N ⟨d, .field T x i, ty, ps, af, g⟩ ρ I L φ :=
  .mk k fun a w ha hm => by simp [execOp, ha.ev hx, (field_run (cs := cs) hf w).2 v rfl hv]
theorem OpV.fieldA {cs vs : List Value} {i off sz : Nat} (hf : fieldOff P T i = some (off, sz, true)) (hx : ev ρ x = some (.agg cs.toArray)) (hv : segGet cs off sz = vs) (k : φ (.agg vs.toArray)) : OpV P N ⟨d, .field T x i, ty, ps, af, g⟩ ρ I L φ :=
  .mk k fun a w ha hm => by simp [execOp, ha.ev hx, (field_run (cs := cs) hf w).1 rfl, hv]
theorem OpV.indexS {cs : List Value} {n sz : Nat} {kd : IntKind} {i : Int} {v : Value} (hf : elemOff P T = some (n, sz, false)) (hx : ev ρ x = some (.agg cs.toArray)) (hy : ev ρ y = some (.int kd i)) (h0 : 0 ≤ i) (h1 : i < n)
    (hv : cs[i.toNat * sz]? = some v) (k : φ v) : OpV P N ⟨d, .index T x y, ty, ps, af, g⟩ ρ I L φ :=
  .mk k fun a w ha hm => by
    unfold elemOff at hf
    split at hf
    · rename_i m e hu
      split at hf
      · rename_i inf dd h2 h3
        simp only [Option.some.injEq, Prod.mk.injEq] at hf
        obtain ⟨rfl, h4, h5⟩ := hf
        have hs : SizeIs P e sz := by simp [SizeIs, h2, h4]
        have := (part_run (cs := cs) (off := i.toNat * sz) h3 hs w).2 v h5 hv
        simp [execOp, ha.ev hx, ha.ev hy, Instr.index, asIntOf, run_underlying hu, h0, h1, hs.run, this]
      · cases hf
    · cases hf
theorem OpV.indexStr {s : ByteArray} {kd : IntKind} {i : Nat} {c : UInt8} (hT : P.underlying T = some .string) (hx : ev ρ x = some (.string s)) (hy : ev ρ y = some (.int kd (i : Int))) (hv : s.data.toList[i]? = some c) (k : φ (u8 c)) :
    OpV P N ⟨d, .index T x y, ty, ps, af, g⟩ ρ I L φ :=
  .mk k fun a w ha hm => by
    have hi : i < s.data.toList.length := (List.getElem?_eq_some_iff.1 hv).1
    have hi' : i < s.size := by simpa using hi
    have hg : s[i]? = some c := by
      rw [getElem?_pos s i hi']
      rw [List.getElem?_eq_getElem hi] at hv
      exact hv
    simp [execOp, ha.ev hx, ha.ev hy, Instr.index, asIntOf, run_underlying hT, hg, u8]
end
end Go.Fl
