import Derived.Test.YtlohppddhbimnaaDoorFlB4
set_option linter.unusedVariables false
set_option linter.unusedSimpArgs false
namespace Go.Fl
open Go.RowKit
section
variable {P : Program} {C : Ctx} {N : Nat} {ρ : Env} {I : Im} {L : Lh} {φ : Value → Prop} {K : Value → Im → Lh → Prop} {d : Option Nat} {ty : TypeId} {ps : String} {af : Array Edge} {g : Option (Nat × Bool)}
variable {x y z : Operand} {T T2 E : TypeId}

/-! arrays and structs built of their parts -/
theorem OpV.buildA {n sz : Nat} {ag : Bool} {zs vs : List Value} {parts : Array (Nat × Operand)} {pv : List (Nat × Value)} (hT : elemOff P T = some (n, sz, ag)) (hz : zerosOf P T = some zs) (hzl : zs.length = n * sz)
    (hp : evP ρ parts.toList = some pv) (hside : sideBySide sz 0 pv = some vs) (hlen : vs.length = n * sz) (k : φ (.agg vs.toArray)) :
    OpV P N ⟨d, .build T parts, ty, ps, af, g⟩ ρ I L φ := .mk k fun a w ha hm => by
  obtain ⟨zv, h1, h2⟩ := zeros_run hz w
  have hparts : (parts.map fun x => (x.1, a.eval x.2)).toList = pv := by rw [Array.toList_map]; exact ha.evP hp
  obtain ⟨out, ho1, ho2⟩ := fill_side (sz := sz) pv 0 zv.cells vs hside (by rw [h2]; simp [hlen, hzl])
  have ho3 : out = vs.toArray := by
    apply Array.ext'
    rw [ho2, h2]
    simp [segSet, hlen, hzl]
  unfold elemOff at hT
  split at hT
  · rename_i m e hu
    split at hT
    · rename_i inf dd h3 h4
      simp only [Option.some.injEq, Prod.mk.injEq] at hT
      obtain ⟨rfl, h5, _⟩ := hT
      have hs : SizeIs P e sz := by simp [SizeIs, h3, h5]
      simp only [execOp, Instr.build, Sem.run_bind, h1, Result.andThen_ok, run_underlying hu, hs.run, hparts, ho1, Sem.run_pure, ho3]
    · cases hT
  · cases hT
/-- Of the fields of struct T: where each lies and how many cells it has. -/
def fieldOffs (P : Program) (T : TypeId) : Option (List (Nat × Nat)) :=
  match P.underlying T with
  | some (.struct fs) => fs.toList.mapM fun f => (P.info? f.type).map fun i => (f.offset, i.size)
  | _ => none
def fillL (offs : List (Nat × Nat)) : List Value → List (Nat × Value) → Option (List Value)
  | cells, [] => some cells
  | cells, (i, v) :: r =>
    match offs[i]? with
    | none => none
    | some (off, size) => if v.cells.size ≠ size || off + v.cells.size > cells.length then none else fillL offs (segSet cells off v.cells.toList) r
theorem fill_fillL {offs : List (Nat × Nat)} : ∀ (pv : List (Nat × Value)) (cells : Array Value) (out : List Value), fillL offs cells.toList pv = some out → Instr.fill (fun i => offs[i]?) cells pv = some out.toArray
  | [], cells, out, h => by simp [fillL] at h; subst h; simp [Instr.fill]
  | (i, v) :: r, cells, out, h => by
    simp only [fillL] at h
    simp only [Instr.fill]
    cases ho : offs[i]? with
    | none => simp [ho] at h
    | some p =>
      obtain ⟨off, size⟩ := p
      simp only [ho] at h ⊢
      by_cases hc : (v.cells.size ≠ size || off + v.cells.size > cells.toList.length) = true
      · rw [if_pos (by simpa using hc)] at h; cases h
      · rw [if_neg (by simpa using hc)] at h
        rw [if_neg (by simpa using hc)]
        have hle : off + v.cells.size ≤ cells.size := by
          simp at hc; omega
        refine fill_fillL r _ out ?_
        rw [fill_seg hle]
        exact h
theorem OpV.buildS {offs : List (Nat × Nat)} {zs out : List Value} {parts : Array (Nat × Operand)} {pv : List (Nat × Value)} (hT : fieldOffs P T = some offs) (hz : zerosOf P T = some zs)
    (hp : evP ρ parts.toList = some pv) (ho : fillL offs zs pv = some out) (k : φ (.agg out.toArray)) : OpV P N ⟨d, .build T parts, ty, ps, af, g⟩ ρ I L φ := .mk k fun a w ha hm => by
  obtain ⟨zv, h1, h2⟩ := zeros_run hz w
  have hparts : (parts.map fun x => (x.1, a.eval x.2)).toList = pv := by rw [Array.toList_map]; exact ha.evP hp
  have hf : Instr.fill (offs.toArray[·]?) zv.cells pv = some out.toArray := by
    have e1 : (fun (i : Nat) => offs.toArray[i]?) = fun (i : Nat) => offs[i]? := by funext i; simp
    rw [e1]
    exact fill_fillL (offs := offs) pv zv.cells out (by rw [h2]; exact ho)
  unfold fieldOffs at hT
  split at hT
  · rename_i fs hu
    have hpl : ∀ (l : List Field) (o : List (Nat × Nat)), (l.mapM fun f => (P.info? f.type).map fun i => (f.offset, i.size)) = some o →
        (l.mapM fun f => (do pure (f.offset, ← sizeOf f.type) : Sem (Nat × Nat))).run P w = .ok o w := by
      intro l
      induction l with
      | nil => intro o h; simp at h; subst h; simp
      | cons f r ih =>
        intro o h
        rw [List.mapM_cons] at h
        cases hq : P.info? f.type with
        | none => simp [hq] at h
        | some inf =>
          cases hr : (r.mapM fun f => (P.info? f.type).map fun i => (f.offset, i.size)) with
          | none => simp [hq, hr] at h
          | some o' =>
            simp [hq, hr] at h
            subst h
            have hsz : SizeIs P f.type inf.size := by simp [SizeIs, hq]
            rw [List.mapM_cons, Sem.run_bind, Sem.run_bind, hsz.run]
            simp only [Result.andThen_ok, Sem.run_pure, Sem.run_bind]
            rw [ih o' hr]
            simp
    have h3 := hpl fs.toList offs hT
    have h4 : (fs.mapM fun f => (do pure (f.offset, ← sizeOf f.type) : Sem (Nat × Nat))).run P w = .ok offs.toArray w := by
      rw [Array.mapM_eq_mapM_toList, map_eq_pure_bind, Sem.run_bind, h3]
      simp
    simp only [execOp, Instr.build, Sem.run_bind, h1, Result.andThen_ok, run_underlying hu, h4, hparts, hf, Sem.run_pure]
  · cases hT

end
end Go.Fl
