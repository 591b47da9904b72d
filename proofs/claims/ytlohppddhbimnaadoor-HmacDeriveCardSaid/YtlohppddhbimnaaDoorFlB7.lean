import Derived.Test.YtlohppddhbimnaaDoorFlB6
import Derived.ChangeKeysEq
set_option linter.unusedVariables false
set_option linter.unusedSimpArgs false
namespace Go.Fl
open Go.RowKit
section
variable {P : Program} {C : Ctx} {N : Nat} {ρ : Env} {I : Im} {L : Lh} {φ : Value → Prop} {K : Value → Im → Lh → Prop} {d : Option Nat} {ty : TypeId} {ps : String} {af : Array Edge} {g : Option (Nat × Bool)}
variable {x y z : Operand} {T T2 E : TypeId}
/-! a == b of arrays of numbers -/
theorem equalIn_int (w : World) (dd : Nat) {kd kd2 : IntKind} {m n : Int} (hT : P.underlying T = some (.int kd2)) : (Op.equalIn (dd + 1) T (.int kd m) (.int kd n)).run P w = .ok (decide (m = n)) w := by
  have : (m == n) = decide (m = n) := rfl
  simp [Op.equalIn, run_underlying hT, this]
theorem run_part_one (w : World) {dd : TypeDesc} (hT : P.underlying E = some dd) (hd : isRow dd = false) {cs : Array Value} {i : Nat} {v : Value} (hv : cs[i]? = some v) : (part E cs i).run P w = .ok v w := by
  simp [part, run_isAgg hT, hd, hv]
theorem run_eqItems_ints (w : World) (dd : Nat) {kd kd2 : IntKind} (hE : P.underlying E = some (.int kd2)) (as bs : List Int) (hl : as.length = bs.length) : ∀ is : List Nat, (∀ i ∈ is, i < as.length) →
    (Op.eqItems (dd + 1) E 1 (as.map (Value.int kd)).toArray (bs.map (Value.int kd)).toArray is).run P w = .ok (is.all fun i => decide (as[i]? = bs[i]?)) w
  | [], _ => by simp [Op.eqItems]
  | i :: is, h => by
    have hi := h i List.mem_cons_self
    have h1 : (as.map (Value.int kd)).toArray[i * 1]? = some (.int kd as[i]) := by simp [hi]
    have h2 : (bs.map (Value.int kd)).toArray[i * 1]? = some (.int kd (bs[i]'(by omega))) := by simp [show i < bs.length by omega]
    have h3 : (as[i]? = bs[i]?) = (as[i] = bs[i]'(by omega)) := by
      rw [List.getElem?_eq_getElem hi, List.getElem?_eq_getElem (show i < bs.length by omega)]
      simp
    simp only [Op.eqItems, Sem.run_bind, run_part_one w hE rfl h1, run_part_one w hE rfl h2, Result.andThen_ok, equalIn_int w dd hE, List.all_cons, h3]
    by_cases he : as[i] = bs[i]'(by omega)
    · simp only [he, decide_true, Bool.not_true, Bool.false_eq_true, if_false, Bool.true_and]
      exact run_eqItems_ints w dd hE as bs hl is fun j hj => h j (List.mem_cons_of_mem _ hj)
    · simp [he]
theorem all_range_eq {α : Type} [DecidableEq α] (as bs : List α) (hl : as.length = bs.length) : ((List.range as.length).all fun i => decide (as[i]? = bs[i]?)) = decide (as = bs) := by
  by_cases h : as = bs
  · subst h; simp
  · rw [decide_eq_false h]
    rw [List.all_eq_false]
    refine Classical.byContradiction fun hno => h (List.ext_getElem? fun i => ?_)
    rcases Nat.lt_or_ge i as.length with hi | hi
    · refine Classical.byContradiction fun hne => hno ⟨i, List.mem_range.2 hi, by simpa using hne⟩
    · rw [List.getElem?_eq_none hi, List.getElem?_eq_none (by omega)]
theorem equal_ints (w : World) {kd kd2 : IntKind} {n : Nat} (hT : P.underlying T = some (.array n E)) (hs : SizeIs P E 1) (hE : P.underlying E = some (.int kd2)) (as bs : List Int) (ha : as.length = n) (hb : bs.length = n) :
    (Op.equal T (.agg (as.map (Value.int kd)).toArray) (.agg (bs.map (Value.int kd)).toArray)).run P w = .ok (decide (as = bs)) w := by
  unfold SizeIs at hs
  cases hi : P.info? E with
  | none => simp [hi] at hs
  | some inf =>
    have hc : P.cellsOf E = 1 := by simp [hi] at hs; simp [Program.cellsOf, hi, hs]
    have h1 := run_equalIn_array (P := P) w 9999 (as.map (Value.int kd)).toArray (bs.map (Value.int kd)).toArray hT hi
    rw [hc, ← ha, run_eqItems_ints w 9998 hE as bs (by omega) _ (fun i hi => List.mem_range.1 hi), all_range_eq as bs (by omega)] at h1
    exact h1
theorem bin_eqlAgg (w : World) {xs ys : Array Value} {b : Bool} (h : (Op.equal T (.agg xs) (.agg ys)).run P w = .ok b w) : (binOp .eql T (.agg xs) (.agg ys)).run P w = .ok (.bool b) w := by
  simp only [binOp]
  rw [Sem.run_bind, h]
  simp
theorem guard_agg (w : World) {op : BinOp} {xs ys : Array Value} (hg : P.eqGuardType P.depth T = false) : (eqGuard op T x y (.agg xs) (.agg ys)).run P w = .ok () w := run_eqGuard_agg w op T x y xs ys hg
theorem eql_iff_map {α : Type} (f : α → Int) (hf : ∀ a b, f a = f b → a = b) (as bs : List α) : (as.map f = bs.map f) ↔ as = bs := ⟨fun h => List.map_inj_right (fun a b => hf a b) |>.1 h, fun h => h ▸ rfl⟩
theorem OpV.eqlB {n : Nat} {as bs : List UInt8} (hT : P.underlying T = some (.array n E)) (hs : SizeIs P E 1) (hE : P.underlying E = some (.int .u8)) (hg : P.eqGuardType P.depth T = false) (ha' : as.length = n) (hb' : bs.length = n)
    (hx : ev ρ x = some (.agg (bytesV as).toArray)) (hy : ev ρ y = some (.agg (bytesV bs).toArray)) (k : φ (.bool (decide (as = bs)))) : OpV P N ⟨d, .binOp .eql T x y T2, ty, ps, af, g⟩ ρ I L φ := .mk k fun a w ha _ => by
  have e1 : ∀ l : List UInt8, bytesV l = (l.map fun c => (c.toNat : Int)).map (Value.int .u8) := fun l => by simp [bytesV, u8]
  have h := equal_ints (P := P) (T := T) (kd := .u8) w hT hs hE (as.map fun c => (c.toNat : Int)) (bs.map fun c => (c.toNat : Int)) (by simpa using ha') (by simpa using hb')
  rw [← e1, ← e1] at h
  have hd : decide ((as.map fun c => (c.toNat : Int)) = (bs.map fun c => (c.toNat : Int))) = decide (as = bs) := by
    rw [decide_eq_decide]
    exact eql_iff_map _ (fun a b h => UInt8.toNat_inj.1 (Int.ofNat_inj.1 h)) as bs
  rw [hd] at h
  simp only [execOp, ha.ev hx, ha.ev hy, Sem.run_bind, guard_agg w hg, bin_eqlAgg w h, Result.andThen_ok, Sem.run_pure]
theorem OpV.eqlW {n : Nat} {as bs : List UInt32} (hT : P.underlying T = some (.array n E)) (hs : SizeIs P E 1) (hE : P.underlying E = some (.int .u32)) (hg : P.eqGuardType P.depth T = false) (ha' : as.length = n) (hb' : bs.length = n)
    (hx : ev ρ x = some (.agg (as.map u32).toArray)) (hy : ev ρ y = some (.agg (bs.map u32).toArray)) (k : φ (.bool (decide (as = bs)))) : OpV P N ⟨d, .binOp .eql T x y T2, ty, ps, af, g⟩ ρ I L φ := .mk k fun a w ha _ => by
  have e1 : ∀ l : List UInt32, l.map u32 = (l.map fun c => (c.toNat : Int)).map (Value.int .u32) := fun l => by simp [u32]
  have h := equal_ints (P := P) (T := T) (kd := .u32) w hT hs hE (as.map fun c => (c.toNat : Int)) (bs.map fun c => (c.toNat : Int)) (by simpa using ha') (by simpa using hb')
  rw [← e1, ← e1] at h
  have hd : decide ((as.map fun c => (c.toNat : Int)) = (bs.map fun c => (c.toNat : Int))) = decide (as = bs) := by
    rw [decide_eq_decide]
    exact eql_iff_map _ (fun a b h => UInt32.toNat_inj.1 (Int.ofNat_inj.1 h)) as bs
  rw [hd] at h
  simp only [execOp, ha.ev hx, ha.ev hy, Sem.run_bind, guard_agg w hg, bin_eqlAgg w h, Result.andThen_ok, Sem.run_pure]
/-! what an operation has made is forgotten, or does not turn any more -/
theorem OpX.drop {o : Oper} (h : OpX P N o ρ I L (fun v J X => K v J [])) : OpX P N o ρ I L K := fun a w ha hm =>
  (h a w ha hm).mono fun v w' ⟨J, X, hc, hle, hn, hm', hX, hk⟩ => by
    have hsub : L.flatten.Sublist (X ++ L).flatten := by simp
    exact ⟨J, [], hc, hle, hn, ⟨hm'.im, fun p hp => hm'.loc p (hsub.subset (by simpa using hp)), fun p hp => hm'.sep p (hsub.subset (by simpa using hp)), by simpa using (hsub.map Prod.fst).nodup hm'.nodup⟩, by simp, hk⟩
theorem OpX.frz {o : Oper} (h : OpX P N o ρ I L (fun v J X => ∀ J', Le J J' → (∀ p ∈ X.flatten, J' p.1 = some p.2) → K v J' [])) : OpX P N o ρ I L K := fun a w ha hm =>
  (h a w ha hm).mono fun v w' ⟨J, X, hc, hle, hn, hm', hX, hk⟩ => by
    have hnd : (X.flatten.map Prod.fst).Nodup := by
      have hsub : X.flatten.Sublist (X ++ L).flatten := by simp
      exact (hsub.map Prod.fst).nodup hm'.nodup
    have hsepX : ∀ p ∈ X.flatten, J p.1 = none := fun p hp => hm'.sep p (by simp [hp])
    have hdis : ∀ p ∈ L.flatten, ∀ q ∈ X.flatten, p.1 ≠ q.1 := fun p hp q hq e => by
      have := hm'.nodup
      simp only [List.flatten_append, List.map_append, List.nodup_append] at this
      exact this.2.2 q.1 (List.mem_map_of_mem hq) p.1 (List.mem_map_of_mem hp) e.symm
    refine ⟨J.with X.flatten, [], hc, hle.trans (Im.with_le hsepX), fun b h0 h1 => ?_, ⟨fun b o hb => ?_, fun p hp => hm'.loc p (by simp at hp ⊢; exact .inr hp), fun p hp => ?_, ?_⟩, by simp, hk _ (Im.with_le hsepX) (fun p hp => Im.with_mem hnd hp)⟩
    · cases hj : J b with
      | some o => exact hn b h0 (by simp [hj])
      | none =>
        obtain ⟨o, ho⟩ := Option.ne_none_iff_exists'.1 h1
        rcases Im.with_some ho with h2 | h2
        · exact hX _ h2
        · rw [hj] at h2; cases h2
    · rcases Im.with_some hb with h2 | h2
      · exact hm'.loc (b, o) (by simp [h2])
      · exact hm'.im b o h2
    · have hp' : p ∈ L.flatten := by simpa using hp
      cases hj : (J.with X.flatten) p.1 with
      | none => rfl
      | some o =>
        rcases Im.with_some hj with h2 | h2
        · exact absurd rfl (hdis p hp' (p.1, o) h2)
        · rw [hm'.sep p (by simp at hp' ⊢; exact .inr hp')] at h2; cases h2
    · have hsub : L.flatten.Sublist (X ++ L).flatten := by simp
      simpa using (hsub.map Prod.fst).nodup hm'.nodup
/-! []byte(x) of a slice of bytes of the same type -/
theorem OpS.convSame (i : Nat) {b n c : Nat} {cs : List Value} {e : TypeId} (hT : P.underlying T = some (.slice E)) (hE : P.underlying E = some (.int .u8)) (hx : ev ρ x = some (slc b 0 n c)) (hL : L[i]? = some [(b, row cs e)])
    (k : K (slc b 0 n c) I (L.set i [(b, .cells cs.toArray e (cs.length, cs.length + 1))])) : OpS P C N ⟨d, .convert T T x, ty, ps, af, g⟩ ρ I L K := fun a w ha hst => by
  have hb := hst.mem.loc (b, row cs e) (mem_chunk hL (by simp))
  have hsh : w.shape? b = some (e, cs.length) := by simp [World.shape?, hb, row]
  have hr : (execOp a.eval ⟨d, .convert T T x, ty, ps, af, g⟩).run P w = .ok (.value (slc b 0 n c)) (w.freeze ⟨b, cs.length, none⟩ 1) := by
    simp [execOp, ha.ev hx, convert, run_underlying hT, run_underlying hE, markStringish, hsh]
  rw [hr]
  refine ⟨I, _, hst.write (w' := w.freeze ⟨b, cs.length, none⟩ 1) hL ?_ ?_ ?_ rfl rfl rfl, k⟩
  · have hlt := lt_of_get hb
    have he : w.heap[b]'hlt = row cs e := by have := hb; rw [Array.getElem?_eq_getElem hlt] at this; exact Option.some.inj this
    simp only [World.freeze, Nat.one_ne_zero, if_false]
    rw [Array.getElem?_modify, if_pos rfl, hb]
    simp [row]
  · intro q hq
    simp only [World.freeze, Nat.one_ne_zero, if_false]
    rw [Array.getElem?_modify, if_neg (Ne.symm hq)]
  · simp [World.freeze]
/-! tests whose answer is known -/
theorem OpV.eqlIT {kd : IntKind} {m n : Int} (hx : ev ρ x = some (.int kd m)) (hy : ev ρ y = some (.int kd n)) (h : m = n) (k : φ (.bool true)) : OpV P N ⟨d, .binOp .eql T x y T2, ty, ps, af, g⟩ ρ I L φ :=
  .eqlI hx hy (by rw [decide_eq_true h]; exact k)
theorem OpV.eqlBT {n : Nat} {as bs : List UInt8} (hT : P.underlying T = some (.array n E)) (hs : SizeIs P E 1) (hE : P.underlying E = some (.int .u8)) (hg : P.eqGuardType P.depth T = false) (ha' : as.length = n)
    (hx : ev ρ x = some (.agg (bytesV as).toArray)) (hy : ev ρ y = some (.agg (bytesV bs).toArray)) (h : as = bs) (k : φ (.bool true)) : OpV P N ⟨d, .binOp .eql T x y T2, ty, ps, af, g⟩ ρ I L φ :=
  .eqlB hT hs hE hg ha' (h ▸ ha') hx hy (by rw [decide_eq_true h]; exact k)
theorem OpV.eqlWT {n : Nat} {as bs : List UInt32} (hT : P.underlying T = some (.array n E)) (hs : SizeIs P E 1) (hE : P.underlying E = some (.int .u32)) (hg : P.eqGuardType P.depth T = false) (ha' : as.length = n)
    (hx : ev ρ x = some (.agg (as.map u32).toArray)) (hy : ev ρ y = some (.agg (bs.map u32).toArray)) (h : as = bs) (k : φ (.bool true)) : OpV P N ⟨d, .binOp .eql T x y T2, ty, ps, af, g⟩ ρ I L φ :=
  .eqlW hT hs hE hg ha' (h ▸ ha') hx hy (by rw [decide_eq_true h]; exact k)
theorem OpX.makeOne {n by_ : Nat} {zv : Value} {kd : IntKind} (hT : P.underlying T = some (.slice E)) (h1 : OneT P E by_ zv) (hz1 : zv.cells = #[zv]) (hx : ev ρ x = some (.int kd (n : Int))) (hb : by_ * n ≤ 281474976710656) (hn : n ≤ 9223372036854775807)
    (k : ∀ b, K (slc b 0 n n) I [[(b, row (List.replicate n zv) E)]]) : OpX P N ⟨d, .makeSlice T x x, ty, ps, af, g⟩ ρ I L K := by
  obtain ⟨inf, hi, hz, hs, rfl⟩ := h1.get
  exact .make1 hT hi hs hz hz1 hx hb hn k
end
end Go.Fl
