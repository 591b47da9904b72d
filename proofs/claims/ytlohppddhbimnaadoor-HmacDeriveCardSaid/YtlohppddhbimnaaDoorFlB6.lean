import Derived.Test.YtlohppddhbimnaaDoorFlL
set_option linter.unusedVariables false
set_option linter.unusedSimpArgs false
namespace Go.Fl
open Go.RowKit
section
variable {P : Program} {C : Ctx} {N : Nat} {ρ : Env} {I : Im} {L : Lh} {φ : Value → Prop} {K : Value → Im → Lh → Prop} {d : Option Nat} {ty : TypeId} {ps : String} {af : Array Edge} {g : Option (Nat × Bool)}
variable {x y z : Operand} {T T2 E : TypeId}
/-! x == nil of slices, pointers, functions -/
theorem equalIn_nilS (w : World) (dd : Nat) {a : Option Addr} {n c : Nat} (hT : P.underlying T = some (.slice E)) : (Op.equalIn (dd + 1) T (.slice a n c) (.slice none 0 0)).run P w = .ok a.isNone w := by
  cases a <;> simp [Op.equalIn, run_underlying hT]
theorem equal_nilS (w : World) {a : Option Addr} {n c : Nat} (hT : P.underlying T = some (.slice E)) : (Op.equal T (.slice a n c) (.slice none 0 0)).run P w = .ok a.isNone w := equalIn_nilS w 9999 hT
theorem bin_eqlNilS (w : World) {a : Option Addr} {n c : Nat} (hT : P.underlying T = some (.slice E)) : (binOp .eql T (.slice a n c) (.slice none 0 0)).run P w = .ok (.bool a.isNone) w := by
  simp only [binOp]
  rw [Sem.run_bind, equal_nilS w hT]
  simp
theorem bin_neqNilS (w : World) {a : Option Addr} {n c : Nat} (hT : P.underlying T = some (.slice E)) : (binOp .neq T (.slice a n c) (.slice none 0 0)).run P w = .ok (.bool (!a.isNone)) w := by
  simp only [binOp]
  rw [Sem.run_bind, equal_nilS w hT]
  simp
theorem OpV.eqlNilS {a : Option Addr} {n c : Nat} (hT : P.underlying T = some (.slice E)) (hx : ev ρ x = some (.slice a n c)) (hy : ev ρ y = some (.slice none 0 0)) (k : φ (.bool a.isNone)) :
    OpV P N ⟨d, .binOp .eql T x y T2, ty, ps, af, g⟩ ρ I L φ := .mk k fun ac w ha _ => by
  simp [execOp, ha.ev hx, ha.ev hy, eqGuard, bin_eqlNilS w hT]
theorem OpV.neqNilS {a : Option Addr} {n c : Nat} (hT : P.underlying T = some (.slice E)) (hx : ev ρ x = some (.slice a n c)) (hy : ev ρ y = some (.slice none 0 0)) (k : φ (.bool (!a.isNone))) :
    OpV P N ⟨d, .binOp .neq T x y T2, ty, ps, af, g⟩ ρ I L φ := .mk k fun ac w ha _ => by
  simp [execOp, ha.ev hx, ha.ev hy, eqGuard, bin_neqNilS w hT]
/-! s[:h] within the capacity, of any slice -/
theorem OpV.sliceHi {y : Operand} {a : Option Addr} {n c h : Nat} {kd : IntKind} {sz : Nat} (hT : P.underlying T = some (.slice E)) (hs : SizeIs P E sz) (hx : ev ρ x = some (.slice a n c)) (hy : ev ρ y = some (.int kd (h : Int))) (hc : h ≤ c) (ha0 : a = none → c = 0)
    (k : φ (.slice a h c)) : OpV P N ⟨d, .slice T x none (some y) none, ty, ps, af, g⟩ ρ I L φ := .mk k fun ac w ha _ => by
  have hr := run_slice_plain (P := P) (a := a) (n := n) (c := c) (l := 0) (h := h) (lo := none) (hi := some (.int kd (h : Int))) hT hs (.inl ⟨rfl, rfl⟩) (.inr ⟨kd, rfl⟩) (Nat.zero_le _) hc w
  have he : (if c = 0 then a else a.map (·.add (0 * sz))) = a := by
    split
    · rfl
    · cases a with
      | none => rfl
      | some ad => cases ad; simp [Addr.add]
  rw [he] at hr
  simp [execOp, ha.ev hx, ha.ev hy, hr]
/-- An own slice, cut. -/
theorem Own.cut {e : TypeId} {s n k b c : Nat} {xs : List Value} {X : List (Nat × Obj)} (h : Own e s (slc b 0 n c) n xs X) (hk : k ≤ n) : Own e s (slc b 0 k c) k (xs.take (k * s)) X := by
  rcases h with ⟨h1, _⟩ | ⟨b', c', sp, h1, rfl, h2, h3, h4, h5⟩
  · cases h1
  · cases h1
    have hle : k * s ≤ n * s := Nat.mul_le_mul_right _ hk
    refine .inr ⟨b, c, xs.drop (k * s) ++ sp, rfl, by rw [← List.append_assoc, List.take_append_drop], ?_, ?_, by omega, h5⟩
    · rw [List.length_take, h2]; exact Nat.min_eq_left hle
    · rw [← List.append_assoc, List.take_append_drop]; exact h3
/-- An empty chunk is laid. -/
theorem wpL.pad {ops : Array Oper} {Q : Exit → Env → Im → Lh → Prop} {l : List Oper} (h : wpL P C N ops Q l ρ I ([] :: L)) : wpL P C N ops Q l ρ I L := fun hd a w ha hs =>
  h hd a w ha ⟨⟨hs.mem.im, by simpa using hs.mem.loc, by simpa using hs.mem.sep, by simpa using hs.mem.nodup⟩, hs.chg, by simpa using hs.own, hs.im0, hs.new⟩
theorem wpS.pad {c : Code} {Q : Exit → Env → Im → Lh → Prop} (h : wpS P C N c Q ρ I ([] :: L)) : wpS P C N c Q ρ I L := fun a w ha hs =>
  h a w ha ⟨⟨hs.mem.im, by simpa using hs.mem.loc, by simpa using hs.mem.sep, by simpa using hs.mem.nodup⟩, hs.chg, by simpa using hs.own, hs.im0, hs.new⟩
/-- append(s, make([]E, m)...) of one-celled elements, as the compiler joins it. -/
theorem OpS.appendZ (i : Nat) {by_ n m : Nat} {v zv : Value} {kd : IntKind} {xs : List Value} {X : List (Nat × Obj)} {U : TypeId} {inf : TypeInfo} (hT : P.underlying T = some (.slice E)) (hi : P.info? E = some inf) (hz : inf.zero = some zv) (hz1 : zv.cells = #[zv])
    (hsz : inf.size = 1) (hone : zv.oneCell' = true) (hU : P.underlying U = some (.int kd))
    (hx : ev ρ x = some v) (hy : ev ρ y = some (i64 (m : Int))) (hL : L[i]? = some X) (hown : Own E 1 v n xs X)
    (hn63 : n + m ≤ maxLen) (hb : (n + m) * inf.bytes ≤ 140737488355328) (k : ∀ v' X', Own E 1 v' (n + m) (xs ++ List.replicate m zv) X' → K v' I (L.set i X')) :
    OpS P C N ⟨d, .call ⟨.builtin .append, #[x, y], #[T, U]⟩, ty, ps, af, g⟩ ρ I L K := fun a w ha hst => by
  obtain ⟨a0, c, rfl⟩ := hown.shape
  have h63 : n + m ≤ 9223372036854775807 := by unfold maxLen at hn63; omega
  have hzc : ∀ q, Builtin.zeroCells zv.cells q = (List.replicate q zv).toArray := fun q => by
    apply Array.ext'
    simp [Builtin.zeroCells, hz1, Nat.mod_one]
    rw [List.map_const']
    simp
  have hw : IntKind.wrap .i64 (m : Int) = (m : Int) := wrap_i64 (by omega) (by omega)
  have hm00 : ¬ ((m : Int) < 0) := by omega
  have hw0 : IntKind.wrap .i64 0 = 0 := wrap_i64 (by omega) (by omega)
  have hmb : ¬ ((m : Int) * (inf.bytes : Int) > 281474976710656) := by
    have : m * inf.bytes ≤ (n + m) * inf.bytes := Nat.mul_le_mul_right _ (by omega)
    have h2 : ((m * inf.bytes : Nat) : Int) ≤ 140737488355328 := Int.ofNat_le.2 (Nat.le_trans this hb)
    rw [Int.natCast_mul] at h2
    omega
  have hmb' : ¬ (281474976710656 < (m : Int) * (inf.bytes : Int)) := hmb
  refine append_core (inf := inf) (zv := zv) (news := List.replicate m zv) i (by rw [hz1, hsz]; rfl) hx hy ha hst hL (by rw [hsz]; exact hown) (by simp [hsz]) (by simp [ones, List.all_replicate, hone]) hn63 ⟨fun hle => ?_, fun hlt olds hold => ?_⟩ (by rw [hsz]; exact k)
  · by_cases hm0 : m = 0
    · subst hm0
      cases a0 <;> simp [Builtin.append_, run_underlying hT, run_underlying hU, sizeOf, typeInfo, zeroValue, hi, hz, asInt, asIntOf, hw, hw0, (show n ≤ c by simpa using hle), hsz]
    · cases a0 <;> simp [Builtin.append_, run_underlying hT, run_underlying hU, sizeOf, typeInfo, zeroValue, hi, hz, asInt, asIntOf, hw, hw0, hm00, hmb', hle, hsz, hm0, hzc]
  · rw [hsz] at hold
    have hfit : ¬ (281474976710656 < Builtin.nextslicecap (n + m) c * inf.bytes) := by have := growslice_fits hlt hb; omega
    have hnle : ¬ (n + m ≤ c) := by omega
    have h63' : ¬ (9223372036854775807 < ((n : Int) + (m : Int))) := by omega
    by_cases hm0 : m = 0
    · subst hm0
      have hnle' : ¬ n ≤ c := by simpa using hnle
      have hfit' : ¬ (281474976710656 < Builtin.nextslicecap n c * inf.bytes) := by simpa using hfit
      have h63'' : ¬ (9223372036854775807 < (n : Int)) := by omega
      simp [Builtin.append_, run_underlying hT, run_underlying hU, sizeOf, typeInfo, zeroValue, hi, hz, asInt, asIntOf, hw, hw0, hnle', hfit', h63'', Question.forced, newRow, grownCap, hold, hsz, hzc]
    · simp [Builtin.append_, run_underlying hT, run_underlying hU, sizeOf, typeInfo, zeroValue, hi, hz, asInt, asIntOf, hw, hw0, hm00, hmb', hnle, h63', hfit, Question.forced, newRow, grownCap, hold, hsz, hzc, hm0]
def OneT (P : Program) (E : TypeId) (by_ : Nat) (zv : Value) : Prop := ((P.info? E).bind fun inf => inf.zero.map fun z => (inf.size, inf.bytes, z)) = some (1, by_, zv)
theorem OneT.of {by_ : Nat} {zv : Value} (h : ((P.info? E).bind fun inf => inf.zero.map fun z => (inf.size, inf.bytes, z)) = some (1, by_, zv)) : OneT P E by_ zv := h
theorem OneT.get {by_ : Nat} {zv : Value} (h : OneT P E by_ zv) : ∃ inf, P.info? E = some inf ∧ inf.zero = some zv ∧ inf.size = 1 ∧ inf.bytes = by_ := by
  unfold OneT at h
  cases hi : P.info? E with
  | none => simp [hi] at h
  | some inf =>
    cases hz : inf.zero with
    | none => simp [hi, hz] at h
    | some z =>
      simp [hi, hz] at h
      obtain ⟨h1, h2, rfl⟩ := h
      exact ⟨inf, rfl, hz, h1, h2⟩
theorem OpS.appendMake (i : Nat) {by_ n m : Nat} {v zv : Value} {kd : IntKind} {xs : List Value} {X : List (Nat × Obj)} {U : TypeId} (hT : P.underlying T = some (.slice E)) (h1 : OneT P E by_ zv) (hz1 : zv.cells = #[zv])
    (hone : zv.oneCell' = true) (hU : P.underlying U = some (.int kd)) (hx : ev ρ x = some v) (hy : ev ρ y = some (i64 (m : Int))) (hL : L[i]? = some X) (hown : Own E 1 v n xs X)
    (hn63 : n + m ≤ maxLen) (hb : (n + m) * by_ ≤ 140737488355328) (k : ∀ v' X', Own E 1 v' (n + m) (xs ++ List.replicate m zv) X' → K v' I (L.set i X')) :
    OpS P C N ⟨d, .call ⟨.builtin .append, #[x, y], #[T, U]⟩, ty, ps, af, g⟩ ρ I L K := by
  obtain ⟨inf, hi, hz, hs, rfl⟩ := h1.get
  exact .appendZ i (by_ := 0) hT hi hz hz1 hs hone hU hx hy hL hown hn63 hb k
theorem evP_nil : evP ρ [] = some [] := rfl
theorem evP_cons {i : Nat} {v : Value} {r : List (Nat × Operand)} {l : List (Nat × Value)} (h : ev ρ x = some v) (h2 : evP ρ r = some l) : evP ρ ((i, x) :: r) = some ((i, v) :: l) := by simp [evP, h, h2]
end
end Go.Fl
