/- Rules over typed values: equality, copy, conversions, appending zeros. -/
import Derived.Test.YtiekhjbhlekaeaaDoorAa
import Derived.Laws.BytesArg
set_option linter.unusedVariables false
set_option linter.unusedSimpArgs false
namespace Go.Ab
open Go.Fl Go.RowKit
open Rep (rep)
variable {P : Program} {C : Ctx} {N : Nat} {σ : AEnv} {H : AHeap} {K : AV → Prop} {KH : AV → AHeap → Prop} {d : Option Nat} {ty : TypeId} {ps : String} {af : Array Edge} {g : Option (Nat × Bool)}
variable {x y z : Operand} {T T2 E S D U : TypeId}
theorem repL_u8 {I : Im} : ∀ {l : List UInt8} {cs : List Value}, repL I l cs ↔ cs = bytesV l
  | [], cs => by simp [repL, bytesV]
  | x :: l, cs => by
    constructor
    · rintro ⟨c, r, rfl, h1, h2⟩
      rw [repL_u8.1 h2, show c = [Fl.u8 x] from h1]; rfl
    · rintro rfl
      exact ⟨[Fl.u8 x], bytesV l, rfl, rfl, repL_u8.2 rfl⟩
theorem repL_u32 {I : Im} : ∀ {l : List UInt32} {cs : List Value}, repL I l cs ↔ cs = l.map Fl.u32
  | [], cs => by simp [repL]
  | x :: l, cs => by
    constructor
    · rintro ⟨c, r, rfl, h1, h2⟩
      rw [repL_u32.1 h2, show c = [Fl.u32 x] from h1]; rfl
    · rintro rfl
      exact ⟨[Fl.u32 x], l.map Fl.u32, rfl, rfl, repL_u32.2 rfl⟩
theorem EvA.arr8 {n : Nat} {a : Arr n UInt8} (h : EvA C σ H x (.v a)) {ρ : Env} {I : Im} {L : Lh} (hs : RSt C I L σ H ρ) : ev ρ x = some (.agg (bytesV a.l).toArray) := by
  obtain ⟨u, h1, cs, h2, rfl⟩ := h ρ I L hs
  rw [repL_u8.1 h2] at h1
  exact h1
theorem EvA.arr32 {n : Nat} {a : Arr n UInt32} (h : EvA C σ H x (.v a)) {ρ : Env} {I : Im} {L : Lh} (hs : RSt C I L σ H ρ) : ev ρ x = some (.agg (a.l.map Fl.u32).toArray) := by
  obtain ⟨u, h1, cs, h2, rfl⟩ := h ρ I L hs
  rw [repL_u32.1 h2] at h1
  exact h1
theorem dec_arr {n : Nat} {α : Type} [DecidableEq α] (a b : Arr n α) : decide (a.l = b.l) = decide (a = b) := by
  rw [decide_eq_decide]
  exact ⟨Arr.ext, fun h => by rw [h]⟩
theorem OpP.eqlA8 {n : Nat} {a b : Arr n UInt8} (hT : P.underlying T = some (.array n E)) (hs : SizeIs P E 1) (hE : P.underlying E = some (.int .u8)) (hg : P.eqGuardType P.depth T = false) (hx : EvA C σ H x (.v a)) (hy : EvA C σ H y (.v b)) (k : K (.v (decide (a = b)))) :
    OpP P N C ⟨d, .binOp .eql T x y T2, ty, ps, af, g⟩ σ H K :=
  .vk k (fun ρ I L hst => .eqlB hT hs hE hg a.h b.h (hx.arr8 hst) (hy.arr8 hst) ⟨_, rfl, by rw [dec_arr]; rfl⟩)
theorem OpP.neqA8 {n : Nat} {a b : Arr n UInt8} (hT : P.underlying T = some (.array n E)) (hs : SizeIs P E 1) (hE : P.underlying E = some (.int .u8)) (hg : P.eqGuardType P.depth T = false) (hx : EvA C σ H x (.v a)) (hy : EvA C σ H y (.v b)) (k : K (.v (decide (a ≠ b)))) :
    OpP P N C ⟨d, .binOp .neq T x y T2, ty, ps, af, g⟩ σ H K :=
  .vk k (fun ρ I L hst => .mk ⟨_, rfl, rfl⟩ fun ac w ha hm => by
    have e1 : ∀ l : List UInt8, bytesV l = (l.map fun c => (c.toNat : Int)).map (Value.int .u8) := fun l => by simp [bytesV, Fl.u8]
    have h := equal_ints (P := P) (T := T) (kd := .u8) w hT hs hE (a.l.map fun c => (c.toNat : Int)) (b.l.map fun c => (c.toNat : Int)) (by rw [List.length_map]; exact a.h) (by rw [List.length_map]; exact b.h)
    rw [← e1, ← e1] at h
    have hd : decide ((a.l.map fun c => (c.toNat : Int)) = (b.l.map fun c => (c.toNat : Int))) = decide (a = b) := by
      rw [← dec_arr, decide_eq_decide]
      exact eql_iff_map _ (fun a b h => UInt8.toNat_inj.1 (Int.ofNat_inj.1 h)) a.l b.l
    rw [hd] at h
    have hneq : (binOp .neq T (.agg (bytesV a.l).toArray) (.agg (bytesV b.l).toArray)).run P w = .ok (.bool (!(decide (a = b)))) w := by simp [binOp, h]
    simp only [execOp, ha.ev (hx.arr8 hst), ha.ev (hy.arr8 hst), Sem.run_bind, guard_agg w hg, hneq, Result.andThen_ok, Sem.run_pure]
    simp [asV, Rep.agg])
theorem OpP.eqlA32 {n : Nat} {a b : Arr n UInt32} (hT : P.underlying T = some (.array n E)) (hs : SizeIs P E 1) (hE : P.underlying E = some (.int .u32)) (hg : P.eqGuardType P.depth T = false) (hx : EvA C σ H x (.v a)) (hy : EvA C σ H y (.v b)) (k : K (.v (decide (a = b)))) :
    OpP P N C ⟨d, .binOp .eql T x y T2, ty, ps, af, g⟩ σ H K :=
  .vk k (fun ρ I L hst => .eqlW hT hs hE hg a.h b.h (hx.arr32 hst) (hy.arr32 hst) ⟨_, rfl, by rw [dec_arr]; rfl⟩)
theorem str_eq {a b : ByteArray} {s t : Str} (ha : a.data.toList = s.l) (hb : b.data.toList = t.l) : (a.toList == b.toList) = decide (s = t) := by
  have h1 : ∀ q : ByteArray, q.toList = q.data.toList := fun q => ByteArray.toList_eq q
  rw [h1, h1, ha, hb]
  cases s; cases t
  exact Bool.eq_iff_iff.2 (by simp)
theorem OpP.eqlS {s t : Str} (hx : EvA C σ H x (.v s)) (hy : EvA C σ H y (.v t)) (k : K (.v (decide (s = t)))) : OpP P N C ⟨d, .binOp .eql T x y T2, ty, ps, af, g⟩ σ H K :=
  .vk k (fun ρ I L hst => by
    obtain ⟨a, h1, h2⟩ := hx.str hst
    obtain ⟨b, h3, h4⟩ := hy.str hst
    exact .mk ⟨_, rfl, rfl⟩ fun ac w ha hm => by simp [execOp, ha.ev h1, ha.ev h3, eqGuard, binOp_string_eql, str_eq h2 h4, asV, Rep.agg])
theorem OpP.neqS {s t : Str} (hx : EvA C σ H x (.v s)) (hy : EvA C σ H y (.v t)) (k : K (.v (decide (s ≠ t)))) : OpP P N C ⟨d, .binOp .neq T x y T2, ty, ps, af, g⟩ σ H K :=
  .vk k (fun ρ I L hst => by
    obtain ⟨a, h1, h2⟩ := hx.str hst
    obtain ⟨b, h3, h4⟩ := hy.str hst
    exact .mk ⟨_, rfl, rfl⟩ fun ac w ha hm => by
      have := str_eq h2 h4
      simp [execOp, ha.ev h1, ha.ev h3, eqGuard, binOp, Op.stringOp, asV, Rep.agg] at this ⊢
      first | exact this | (simp [bne, this]))
theorem run_eqBl (w : World) {a b : Bool} (hT : P.underlying T = some .bool) : (Op.equal T (.bool a) (.bool b)).run P w = .ok (a == b) w := by
  have : ∀ dd, (Op.equalIn (dd + 1) T (.bool a) (.bool b)).run P w = .ok (a == b) w := fun dd => by simp [Op.equalIn, run_underlying hT]
  exact this 9999
theorem OpP.eqlBl {a b : Bool} (hT : P.underlying T = some .bool) (hx : EvA C σ H x (.v a)) (hy : EvA C σ H y (.v b)) (k : K (.v (a == b))) : OpP P N C ⟨d, .binOp .eql T x y T2, ty, ps, af, g⟩ σ H K :=
  .vk k (fun ρ I L hst => .mk ⟨_, rfl, rfl⟩ fun ac w ha hm => by simp [execOp, ha.ev (hx.bool hst), ha.ev (hy.bool hst), eqGuard, binOp, run_eqBl w hT, asV, Rep.agg])
theorem OpP.neqBl {a b : Bool} (hT : P.underlying T = some .bool) (hx : EvA C σ H x (.v a)) (hy : EvA C σ H y (.v b)) (k : K (.v (a != b))) : OpP P N C ⟨d, .binOp .neq T x y T2, ty, ps, af, g⟩ σ H K :=
  .vk k (fun ρ I L hst => .mk ⟨_, rfl, rfl⟩ fun ac w ha hm => by simp [execOp, ha.ev (hx.bool hst), ha.ev (hy.bool hst), eqGuard, binOp, run_eqBl w hT, asV, Rep.agg]; cases a <;> cases b <;> rfl)
/-! []byte of a string -/
theorem OpH.strBytes {s : Str} (hS : P.underlying S = some .string) (hD : P.underlying D = some (.slice E)) (hE : P.underlying E = some (.int .u8)) (hx : EvA C σ H x (.v s))
    (k : ∀ w, KH (.raw w) ((true, .own E w s.l) :: H)) : OpH P C N ⟨d, .convert S D x, ty, ps, af, g⟩ σ H KH :=
  .ofX fun ρ I L hs a w ha hm => by
    obtain ⟨b, h1, h2⟩ := hx.str hs
    have hb := hx.strLe hs
    have hsz : b.size = s.l.length := by rw [← h2]; rfl
    have hrun := run_bytes_of_string (P := P) w S D E b hS hD hE
    have hop : (execOp a.eval ⟨d, .convert S D x, ty, ps, af, g⟩).run P w = ((convert S D (.string b)).run P w).andThen fun v w' => .ok (.value v) w' := by
      simp [execOp, ha.ev h1]
    rw [hop, hrun]
    generalize hC : bytesRow b (grownCap w b.size 0 E) = R
    have hcap : grownCap w b.size 0 E ≥ b.size := grownCap_ge w b.size 0 E
    have hcapm : grownCap w b.size 0 E ≤ maxLen := grownCap_le_maxLen w b.size 0 E (by rw [hsz]; unfold maxLen; omega)
    generalize grownCap w b.size 0 E = c at *
    have hR : R.toList = bytesV s.l ++ List.replicate (c - b.size) (Value.int .u8 0) := by
      rw [← hC, ← h2]
      simp [bytesRow, bytesV, Fl.u8]
    have hnI : I w.heap.size = none := by
      cases hi : I w.heap.size with
      | none => rfl
      | some o => have := lt_of_get (hm.im _ _ hi); omega
    have hnew : (w.drew.alloc (.cells R E (R.size, R.size + 1))).heap[w.heap.size]? = some (.cells R E (R.size, R.size + 1)) := by
      show (w.heap.push _)[w.heap.size]? = _
      simp
    have hold : ∀ k, k < w.heap.size → (w.drew.alloc (.cells R E (R.size, R.size + 1))).heap[k]? = w.heap[k]? := fun k hk => by
      show (w.heap.push _)[k]? = _
      rw [Array.getElem?_push_lt hk, Array.getElem?_eq_getElem hk]
    have hRl : R = (bytesV s.l ++ List.replicate (c - b.size) (Value.int .u8 0)).toArray := by rw [← hR]
    have hbl : (bytesV s.l).length = s.l.length := by simp [bytesV]
    refine ⟨I, [[(w.heap.size, .cells R E (R.size, R.size + 1))]], ⟨rfl, rfl, rfl, by show _ ≤ (w.heap.push _).size; simp, fun k hk _ => hold k hk⟩, Le.refl I, fun b h0 h1 => absurd h0 h1, ⟨fun b o hb => ?_, fun p hp => ?_, fun p hp => ?_, ?_⟩, ?_, .raw (slc w.heap.size 0 b.size c), .own E (slc w.heap.size 0 b.size c) s.l, _, rfl, rfl, ⟨bytesV s.l, .inr ⟨w.heap.size, c, _, (R.size, R.size + 1), by rw [hsz], by rw [hRl], by rw [hbl]; exact (Nat.mul_one _).symm, ?_, by omega, hcapm, .inr ?_⟩, repL_u8.2 rfl⟩, k _⟩
    · exact (hold b (lt_of_get (hm.im b o hb))).trans (hm.im b o hb)
    · simp only [List.cons_append, List.nil_append, List.flatten_cons, List.mem_cons] at hp
      rcases hp with rfl | hp
      · exact hnew
      · exact (hold _ (lt_of_get (hm.loc p hp))).trans (hm.loc p hp)
    · simp only [List.cons_append, List.nil_append, List.flatten_cons, List.mem_cons] at hp
      rcases hp with rfl | hp
      · exact hnI
      · exact hm.sep p hp
    · simp only [List.cons_append, List.nil_append, List.flatten_cons, List.map_cons, List.nodup_cons, List.mem_map, not_exists, not_and]
      refine ⟨fun p hp e => ?_, hm.nodup⟩
      have := lt_of_get (hm.loc p hp)
      omega
    · intro p hp; simp at hp; subst hp; exact Nat.le_refl _
    · rw [List.length_append, hbl, List.length_replicate]
      show _ = c * 1
      omega
    · rw [hRl]; simp
/-- []byte of a slice's literal. -/
theorem OpH.same {α : Type} {r : Rep α} {t : Nat} {w : Value} {l : List α} {bb : Bool} {F : Bool × Blk → AHeap} (hT : P.underlying T = some (.slice E)) (hE : P.underlying E = some (.int .u8)) (hx : lookA σ t = some (.raw w)) (hH : Hole H (bb, .own E w l) F) (hl : l ≠ [])
    (k : KH (.raw w) (F (bb, .own E w l))) : OpH P C N ⟨d, .convert T T (.tmp t), ty, ps, af, g⟩ σ H KH := fun ρ I L hs => by
  obtain ⟨u, h1, rfl⟩ := hs.env t _ hx
  obtain ⟨j, X, h5, h6, h7⟩ := hH.get hs.heap
  obtain ⟨xs, h8, h9⟩ := h6.1
  intro a w ha hst
  have hx2 : a.eval (.tmp t) = _ := ha.ev (x := .tmp t) h1
  rcases h8 with ⟨rfl, hn, rfl, rfl⟩ | ⟨b, c, sp, q, rfl, rfl, e1, e2, e3, e4, e5⟩
  · exact absurd (List.eq_nil_of_length_eq_zero hn) hl
  · have hb := hst.mem.loc (b, .cells (xs ++ sp).toArray E q) (mem_chunk h5 (by simp))
    have hsh : w.shape? b = some (E, (xs ++ sp).length) := by simp [World.shape?, hb]
    have hr : (execOp a.eval ⟨d, .convert T T (.tmp t), ty, ps, af, g⟩).run P w = .ok (.value (slc b 0 l.length c)) (w.freeze ⟨b, (xs ++ sp).length, none⟩ 1) := by
      simp only [execOp, hx2, convert, Sem.run_bind, run_underlying hT, run_underlying hE, Result.andThen_ok]
      simp [markStringish, hsh]
    rw [hr]
    refine ⟨I, L.set j [(b, .cells (xs ++ sp).toArray E ((xs ++ sp).length, (xs ++ sp).length + 1))], hst.write (w' := w.freeze ⟨b, (xs ++ sp).length, none⟩ 1) h5 ?_ ?_ ?_ rfl rfl rfl, Le.refl I, .raw _, _, rfl, h7 I (bb, .own E _ l) _ (Le.refl I) ⟨⟨xs, .inr ⟨b, c, sp, _, rfl, rfl, e1, e2, e3, e4, .inr rfl⟩, h9⟩, fun hbb p hp => ?_⟩, k⟩
    · have hlt := lt_of_get hb
      simp only [World.freeze, Nat.one_ne_zero, if_false]
      rw [Array.getElem?_modify, if_pos rfl, hb]
      rcases e5 with rfl | rfl
      · simp
      · simp
    · intro q hq
      simp only [World.freeze, Nat.one_ne_zero, if_false]
      rw [Array.getElem?_modify, if_neg (Ne.symm hq)]
    · simp [World.freeze]
    · have := h6.2 hbb _ (List.mem_singleton.2 rfl)
      simp only [List.mem_singleton] at hp
      subst hp; exact this
theorem OpS.appendZG {ρ : Env} {I : Im} {L : Lh} {K : Value → Im → Lh → Prop} (i : Nat) {by_ n m : Nat} {v zv : Value} {kd : IntKind} {xs : List Value} {X : List (Nat × Obj)} {U : TypeId} {inf : TypeInfo} (hT : P.underlying T = some (.slice E)) (hi : P.info? E = some inf) (hz : inf.zero = some zv) (hz1 : zv.cells = #[zv])
    (hsz : inf.size = 1) (hone : zv.oneCell' = true) (hU : P.underlying U = some (.int kd))
    (hx : ev ρ x = some v) (hy : ev ρ y = some (i64 (m : Int))) (hL : L[i]? = some X) (hown : OwnG E 1 v n xs X)
    (hn63 : n + m ≤ maxLen) (hb : (n + m) * inf.bytes ≤ 140737488355328) (k : ∀ v' X', OwnG E 1 v' (n + m) (xs ++ List.replicate m zv) X' → (∀ p ∈ X', p.1 ∈ X.map Prod.fst ∨ C.w0.heap.size ≤ p.1) → K v' I (L.set i X')) :
    OpS P C N ⟨d, .call ⟨.builtin .append, #[x, y], #[T, U]⟩, ty, ps, af, g⟩ ρ I L K := fun a w ha hst => by
  obtain ⟨a0, c, rfl⟩ := hown.shape
  have h63 : n + m ≤ 9223372036854775807 := by unfold maxLen at hn63; omega
  have hzc : ∀ q, Builtin.zeroCells zv.cells q = (List.replicate q zv).toArray := fun q => by
    apply Array.ext'
    simp [Builtin.zeroCells, hz1, Nat.mod_one]
    rw [List.map_const']
    simp
  have hw : IntKind.wrap .i64 (m : Int) = (m : Int) := wrap_i64 (by omega) (by omega)
  have hm00 : ¬ ((m : Int) < 0) := by omega
  have hw0 : IntKind.wrap .i64 0 = 0 := wrap_i64 (by omega) (by omega)
  have hmb : ¬ ((m : Int) * (inf.bytes : Int) > 281474976710656) := by
    have : m * inf.bytes ≤ (n + m) * inf.bytes := Nat.mul_le_mul_right _ (by omega)
    have h2 : ((m * inf.bytes : Nat) : Int) ≤ 140737488355328 := Int.ofNat_le.2 (Nat.le_trans this hb)
    rw [Int.natCast_mul] at h2
    omega
  have hmb' : ¬ (281474976710656 < (m : Int) * (inf.bytes : Int)) := hmb
  refine appendG_core (inf := inf) (zv := zv) (news := List.replicate m zv) i (by rw [hz1, hsz]; rfl) hx hy ha hst hL (by rw [hsz]; exact hown) (by simp [hsz]) (by simp [ones, List.all_replicate, hone]) hn63 ⟨fun hle => ?_, fun hlt olds hold => ?_⟩ (by rw [hsz]; exact k)
  · by_cases hm0 : m = 0
    · subst hm0
      cases a0 <;> simp [Builtin.append_, run_underlying hT, run_underlying hU, sizeOf, typeInfo, zeroValue, hi, hz, asInt, asIntOf, hw, hw0, (show n ≤ c by simpa using hle), hsz]
    · cases a0 <;> simp [Builtin.append_, run_underlying hT, run_underlying hU, sizeOf, typeInfo, zeroValue, hi, hz, asInt, asIntOf, hw, hw0, hm00, hmb', hle, hsz, hm0, hzc]
  · rw [hsz] at hold
    have hfit : ¬ (281474976710656 < Builtin.nextslicecap (n + m) c * inf.bytes) := by have := growslice_fits hlt hb; omega
    have hnle : ¬ (n + m ≤ c) := by omega
    have h63' : ¬ (9223372036854775807 < ((n : Int) + (m : Int))) := by omega
    by_cases hm0 : m = 0
    · subst hm0
      have hnle' : ¬ n ≤ c := by simpa using hnle
      have hfit' : ¬ (281474976710656 < Builtin.nextslicecap n c * inf.bytes) := by simpa using hfit
      have h63'' : ¬ (9223372036854775807 < (n : Int)) := by omega
      simp [Builtin.append_, run_underlying hT, run_underlying hU, sizeOf, typeInfo, zeroValue, hi, hz, asInt, asIntOf, hw, hw0, hnle', hfit', h63'', Question.forced, newRow, grownCap, hold, hsz, hzc]
    · simp [Builtin.append_, run_underlying hT, run_underlying hU, sizeOf, typeInfo, zeroValue, hi, hz, asInt, asIntOf, hw, hw0, hm00, hmb', hnle, h63', hfit, Question.forced, newRow, grownCap, hold, hsz, hzc, hm0]

theorem OpH.appendZ {α : Type} {r : Rep α} {i0 : Inhabited α} {by_ t : Nat} {w : Value} {l : List α} {m : Int} {zv : Value} {F : Bool × Blk → AHeap} (hT : P.underlying T = some (.slice E)) (h1 : OneT P E by_ zv) (hz1 : zv.cells = #[zv]) (hone : zv.oneCell' = true) (hsz : Rep.size α = 1)
    (hz : ∀ I, rep I (default : α) [zv]) (hU : P.underlying U = some (.int .i64)) (hx : lookA σ t = some (.raw w)) (hH : Hole H (true, .own E w l) F) (hy : EvA C σ H y (.v m)) (h0 : 0 ≤ m) (hb : (l.length + m.toNat) * by_ ≤ 140737488355328) (hn : l.length + m.toNat ≤ 9223372036854775807)
    (k : ∀ w', KH (.raw w') (F (true, .own E w' (l ++ List.replicate m.toNat default)))) : OpH P C N ⟨d, .call ⟨.builtin .append, #[.tmp t, y], #[T, U]⟩, ty, ps, af, g⟩ σ H KH := fun ρ I L hs => by
  obtain ⟨u, h2, rfl⟩ := hs.env t _ hx
  obtain ⟨h3, _⟩ := hy.int hs
  obtain ⟨j, X, h5, h6, h7⟩ := hH.get hs.heap
  obtain ⟨xs, h8, h9⟩ := h6.1
  obtain ⟨inf, hi, hzz, hs1, hs2⟩ := h1.get
  rw [hsz] at h8
  intro a w0 ha hst
  have hm : m = ((m.toNat : Nat) : Int) := by omega
  rw [hm] at h3
  refine Yld.mono (OpS.appendZG (K := fun v' J L' => ∃ X', L' = L.set j X' ∧ J = I ∧ OwnG E 1 v' (l.length + m.toNat) (xs ++ List.replicate m.toNat zv) X' ∧ (∀ p ∈ X', p.1 ∈ X.map Prod.fst ∨ C.w0.heap.size ≤ p.1)) (x := .tmp t) (by_ := 0) j hT hi hzz hz1 hs1 hone hU h2 h3 h5 h8 (by unfold maxLen; omega) (by rw [hs2]; exact hb) (fun v' X' ho hn => ⟨X', rfl, rfl, ho, hn⟩) a w0 ha hst) ?_
  rintro v' w' ⟨J, L', hst', X', rfl, rfl, ho, hnew⟩
  have hrl : repL J (List.replicate m.toNat (default : α)) (List.replicate m.toNat zv) := by
    have := repL_replicate (hz J) m.toNat
    have e : ∀ n, (List.replicate n [zv]).flatten = List.replicate n zv := fun n => by
      induction n with
      | zero => rfl
      | succ n ih => rw [List.replicate_succ, List.flatten_cons, ih, List.replicate_succ]; rfl
    rwa [e] at this
  refine ⟨J, _, hst', Le.refl J, .raw v', _, rfl, h7 J (true, .own E v' (l ++ List.replicate m.toNat default)) X' (Le.refl J) ⟨⟨_, by rw [List.length_append, List.length_replicate, hsz]; exact ho, h9.append hrl⟩, fun _ p hp => ?_⟩, k v'⟩
  rcases hnew p hp with h | h
  · obtain ⟨q, hq, hqe⟩ := List.mem_map.1 h
    rw [← hqe]; exact h6.2 rfl q hq
  · exact h
/-! copy -/
theorem Src.firsts {I : Im} {L : Lh} {s m : Nat} {v : Value} {news : List Value} (h : Src P I L s v m news) {w : World} (hm : Mem I L w) {k : Nat} (hk : k ≤ m) : (Builtin.firstCells s k v).run P w = .ok (news.take (k * s)).toArray w := h.cells w hm k hk
theorem OpH.copyOwn {α : Type} {r : Rep α} {i0 : Inhabited α} {t : Nat} {w : Value} {l m : List α} {bb : Bool} {F : Bool × Blk → AHeap} (tE : TyIs P E α) (hT : P.underlying T = some (.slice E)) (hx : lookA σ t = some (.raw w)) (hH : Hole H (bb, .own E w l) F) (hy : SrcA P C σ H y m)
    (hb : m.length ≤ 9223372036854775807) (k : KH (.v ((min m.length l.length : Nat) : Int)) (F (bb, .own E w (m.take l.length ++ l.drop m.length)))) : OpH P C N ⟨d, .call ⟨.builtin .copy, #[.tmp t, y], #[T, U]⟩, ty, ps, af, g⟩ σ H KH := fun ρ I L hs => by
  obtain ⟨u, h1, rfl⟩ := hs.env t _ hx
  obtain ⟨v, news, h2, h3, h4⟩ := hy ρ I L hs
  obtain ⟨j, X, h5, h6, h7⟩ := hH.get hs.heap
  obtain ⟨xs, h8, h9⟩ := h6.1
  intro a w ha hst
  have hmem := hst.mem
  generalize hmn : min m.length l.length = n at k
  have hnm : Nat.min m.length l.length = n := hmn
  have hsz := tE.size.run w
  have hfc := h3.cells w hmem n (by omega)
  have hl4 := h4.len
  have hpos : 0 < Rep.size α := Nat.pos_of_ne_zero tE.pos
  have hlist : m.take l.length = m.take n := by rw [← hmn, List.take_eq_take_iff]; omega
  have hdrop : l.drop m.length = l.drop n := by
    by_cases h : m.length ≤ l.length
    · rw [← hmn, Nat.min_eq_left h]
    · rw [List.drop_eq_nil_of_le (by omega), List.drop_eq_nil_of_le (by omega)]
  have hrep : repL I (m.take l.length ++ l.drop m.length) (segSet xs 0 (news.take (n * Rep.size α))) := by
    rw [hlist, hdrop]
    have h10 := h4.cut 0 n (by omega)
    have h11 := h9.cut n l.length (Nat.le_refl _)
    simp only [List.drop_zero, Nat.zero_mul, List.take_length] at h10 h11
    rw [← h9.len, List.take_length] at h11
    have hl : (news.take (n * Rep.size α)).length = n * Rep.size α := by
      rw [List.length_take, hl4]; exact Nat.min_eq_left (Nat.mul_le_mul_right _ (by omega))
    simp only [segSet, List.take_zero, List.nil_append, Nat.zero_add]
    rw [hl]
    exact h10.append h11
  have hlen2 : (m.take l.length ++ l.drop m.length).length = l.length := by
    rw [hlist, hdrop]; simp; omega
  rcases h8 with ⟨rfl, hn0, rfl, rfl⟩ | ⟨b, c, sp, q, rfl, rfl, e1, e2, e3, e4, e5⟩
  · have hn00 : n = 0 := by omega
    have hr : (execOp a.eval ⟨d, .call ⟨.builtin .copy, #[.tmp t, y], #[T, U]⟩, ty, ps, af, g⟩).run P w = .ok (.value (goInt n)) w := by
      simp only [execOp, resolve, invoke, builtin, Builtin.copy_, Sem.run_bind, run_underlying hT, Result.andThen_ok, ha.ev (x := .tmp t) h1, ha.ev h2, h3.len w, hsz, hn0] at hfc hnm ⊢
      simp [run_underlying hT, h3.len w, hsz, ha.ev (x := .tmp t) h1, ha.ev h2, hn0, hn00] at hfc hnm ⊢
      simp [hnm, hfc]
    rw [hr]
    refine ⟨I, L.set j [], hst.dropAt j, Le.refl I, .v ((n : Nat) : Int), _, ⟨_, ⟨rfl, by omega, by omega⟩, rfl⟩, h7 I (bb, .own E _ (m.take l.length ++ l.drop m.length)) [] (Le.refl I) ⟨⟨_, .inl ⟨rfl, by rw [hlen2]; exact hn0, ?_, rfl⟩, hrep⟩, by simp⟩, k⟩
    have := hrep.len
    rw [hlen2, hn0, Nat.zero_mul] at this
    exact List.eq_nil_of_length_eq_zero this
  · have hbh := hst.mem.loc (b, .cells (xs ++ sp).toArray E q) (mem_chunk h5 (by simp))
    have hxl : xs.length = l.length * Rep.size α := h9.len
    have hnl : (news.take (n * Rep.size α)).length = n * Rep.size α := by
      rw [List.length_take, hl4]; exact Nat.min_eq_left (Nat.mul_le_mul_right _ (by omega))
    have hfit : 0 + (news.take (n * Rep.size α)).length ≤ xs.length := by rw [hnl, hxl, Nat.zero_add]; exact Nat.mul_le_mul_right _ (by omega)
    have hall : ∀ u ∈ news.take (n * Rep.size α), u.oneCell' = true := fun u hu => List.all_eq_true.1 h4.flat u (List.mem_of_mem_take hu)
    have hst2 := run_storeCells_fr P b 0 E q (news.take (n * Rep.size α)) 0 (xs ++ sp).toArray w hbh (by simp only [List.size_toArray, List.length_append]; omega) hall (fun j hj => by rcases e5 with rfl | rfl <;> simp at hj ⊢ <;> omega)
    have hr : (execOp a.eval ⟨d, .call ⟨.builtin .copy, #[.tmp t, y], #[T, U]⟩, ty, ps, af, g⟩).run P w = .ok (.value (goInt n)) (w.setRow b (segSet (xs ++ sp) 0 (news.take (n * Rep.size α))).toArray) := by
      simp [execOp, resolve, invoke, builtin, Builtin.copy_, run_underlying hT, h3.len w, hsz, ha.ev (x := .tmp t) h1, ha.ev h2, hmn, hfc]
      simp only [Nat.add_zero] at hst2
      rw [show (⟨b, 0, none⟩ : Addr) = { block := b, off := 0 } from rfl] at hst2
      simp [hst2, segSet]
    rw [hr]
    have hseg : segSet (xs ++ sp) 0 (news.take (n * Rep.size α)) = segSet xs 0 (news.take (n * Rep.size α)) ++ sp := segSet_append xs sp _ _ hfit
    have hlen : (segSet xs 0 (news.take (n * Rep.size α))).length = xs.length := segSet_length _ _ _ hfit
    refine ⟨I, _, setRowG hst h5 _, Le.refl I, .v ((n : Nat) : Int), _, ⟨_, ⟨rfl, by omega, by omega⟩, rfl⟩, h7 I (bb, .own E _ (m.take l.length ++ l.drop m.length)) _ (Le.refl I) ⟨⟨_, .inr ⟨b, c, sp, q, by rw [hlen2], by rw [hseg], by rw [hlen, hlen2]; exact e1, by rw [List.length_append, hlen, ← List.length_append]; exact e2, by rw [hlen2]; exact e3, e4, ?_⟩, hrep⟩, fun hbb p hp => ?_⟩, k⟩
    · rw [List.length_append, hlen, ← List.length_append]; exact e5
    · have := h6.2 hbb _ (List.mem_singleton.2 rfl)
      simp only [List.mem_singleton] at hp
      subst hp; exact this

end Go.Ab
/- Regions that draw their order, of operations that turn no own memory at any time, and of a chain of others, each of which waits for the one ahead of it. -/
set_option linter.unusedVariables false
namespace Go.Ab
open Go.Fl Go.RowKit
open Rep (rep)
theorem ne_not {b w : Bool} (h : ¬ b = w) : b = !w := by cases b <;> cases w <;> simp_all
/-- The chain's operations one after the other. -/
def plan (P : Program) (C : Ctx) (N : Nat) (σ0 : AEnv) (accP : List (Nat × AV)) (F : List (Nat × AV) → AHeap → Prop) : List (Nat × Oper × List (Nat × Nat)) → List (Nat × AV) → AHeap → Prop
  | [], cacc, H => F cacc H
  | (i, o, s) :: rest, cacc, H =>
    match o.guard, lookR accP i with
    | none, none => OpH P C N o (envOf σ0 (cacc ++ accP) s (opTmps o)) H (fun r H' => plan P C N σ0 accP F rest ((i, r) :: cacc) H')
    | none, some r0 => OpH P C N o (envOf σ0 (cacc ++ accP) s (opTmps o)) H (fun r H' => r = r0 ∧ plan P C N σ0 accP F rest ((i, r0) :: cacc) H')
    | some (g, want), none => ∃ b, lookR accP g = some (.v b) ∧ (b = want → OpH P C N o (envOf σ0 (cacc ++ accP) s (opTmps o)) H (fun r H' => plan P C N σ0 accP F rest ((i, r) :: cacc) H')) ∧
        (b = (!want) → plan P C N σ0 accP F rest ((i, .any) :: cacc) H)
    | some (g, want), some r0 => ∃ b c, lookR accP g = some (.v b) ∧ r0 = .opt (b == want) c ∧ (b = want → OpH P C N o (envOf σ0 (cacc ++ accP) s (opTmps o)) H (fun r H' => r = c ∧ plan P C N σ0 accP F rest ((i, r0) :: cacc) H')) ∧
        (b = (!want) → plan P C N σ0 accP F rest ((i, r0) :: cacc) H)
/-- The same, where the heap's end stays as it is. -/
def planK (P : Program) (C : Ctx) (N : Nat) (σ0 : AEnv) {ι : Type 1} (HT : ι → AHeap) (accP : List (Nat × AV)) (F : List (Nat × AV) → AHeap → Prop) : List (Nat × Oper × List (Nat × Nat)) → List (Nat × AV) → AHeap → Prop
  | [], cacc, H => (∃ Hp, H = HT Hp) ∧ F cacc H
  | (i, o, s) :: rest, cacc, H => (∃ Hp, H = HT Hp) ∧
    match o.guard, lookR accP i with
    | none, none => OpH P C N o (envOf σ0 (cacc ++ accP) s (opTmps o)) H (fun r H' => planK P C N σ0 HT accP F rest ((i, r) :: cacc) H')
    | none, some r0 => OpH P C N o (envOf σ0 (cacc ++ accP) s (opTmps o)) H (fun r H' => r = r0 ∧ planK P C N σ0 HT accP F rest ((i, r0) :: cacc) H')
    | some (g, want), none => ∃ b, lookR accP g = some (.v b) ∧ (b = want → OpH P C N o (envOf σ0 (cacc ++ accP) s (opTmps o)) H (fun r H' => planK P C N σ0 HT accP F rest ((i, r) :: cacc) H')) ∧
        (b = (!want) → planK P C N σ0 HT accP F rest ((i, .any) :: cacc) H)
    | some (g, want), some r0 => ∃ b c, lookR accP g = some (.v b) ∧ r0 = .opt (b == want) c ∧ (b = want → OpH P C N o (envOf σ0 (cacc ++ accP) s (opTmps o)) H (fun r H' => r = c ∧ planK P C N σ0 HT accP F rest ((i, r0) :: cacc) H')) ∧
        (b = (!want) → planK P C N σ0 HT accP F rest ((i, r0) :: cacc) H)
theorem planK.tail {P : Program} {C : Ctx} {N : Nat} {σ0 : AEnv} {ι : Type 1} {HT : ι → AHeap} {accP : List (Nat × AV)} {F : List (Nat × AV) → AHeap → Prop} : ∀ {l : List (Nat × Oper × List (Nat × Nat))} {cacc : List (Nat × AV)} {H : AHeap}, planK P C N σ0 HT accP F l cacc H → ∃ Hp, H = HT Hp
  | [], _, _, h => h.1
  | _ :: _, _, _, h => h.1
theorem OpH.mono {P : Program} {C : Ctx} {N : Nat} {o : Oper} {σ : AEnv} {H : AHeap} {K K' : AV → AHeap → Prop} (h : OpH P C N o σ H K) (hk : ∀ r H', K r H' → K' r H') : OpH P C N o σ H K' := fun ρ I L hs a w ha hst =>
  (h ρ I L hs a w ha hst).mono fun v w' ⟨J, L', q1, q2, r, H', q3, q4, q5⟩ => ⟨J, L', q1, q2, r, H', q3, q4, hk r H' q5⟩
theorem plan.toK {P : Program} {C : Ctx} {N : Nat} {σ0 : AEnv} {accP : List (Nat × AV)} {F : List (Nat × AV) → AHeap → Prop} : ∀ {l : List (Nat × Oper × List (Nat × Nat))} {cacc : List (Nat × AV)} {H : AHeap}, plan P C N σ0 accP F l cacc H → planK P C N σ0 (fun H => H) accP F l cacc H
  | [], _, H, h => ⟨⟨H, rfl⟩, h⟩
  | (i, o, s) :: rest, cacc, H, h => by
    refine ⟨⟨H, rfl⟩, ?_⟩
    unfold plan at h
    cases hg : o.guard with
    | none =>
      cases hr : lookR accP i with
      | none => simp only [hg, hr] at h ⊢; exact h.mono fun r H' k => k.toK
      | some r0 => simp only [hg, hr] at h ⊢; exact h.mono fun r H' k => ⟨k.1, k.2.toK⟩
    | some gw =>
      obtain ⟨g, want⟩ := gw
      cases hr : lookR accP i with
      | none =>
        simp only [hg, hr] at h ⊢
        obtain ⟨b, h1, h2, h3⟩ := h
        exact ⟨b, h1, fun e => (h2 e).mono fun r H' k => k.toK, fun e => (h3 e).toK⟩
      | some r0 =>
        simp only [hg, hr] at h ⊢
        obtain ⟨b, c, h1, h2, h3, h4⟩ := h
        exact ⟨b, c, h1, h2, fun e => (h3 e).mono fun r H' k => ⟨k.1, k.2.toK⟩, fun e => (h4 e).toK⟩
/-- What the chain is: its places in the region, in order; each waits for the one ahead; no other operation reads what it makes. -/
def chainOk (ops : Array Oper) (n : Nat) (ss : List (List (Nat × Nat))) (ci : List Nat) : Bool :=
  (List.range ci.length).all (fun k => match ci[k]? with
    | some i => Nat.blt i n && (match k with | 0 => true | k' + 1 => match ci[k']? with | some j => Nat.blt j i && Region.waitsFor .any ops i j | none => false)
    | none => false)
theorem lookR_append (a b : List (Nat × AV)) (j : Nat) : lookR (a ++ b) j = (match lookR a j with | some r => some r | none => lookR b j) := by
  induction a with
  | nil => rfl
  | cons p a ih =>
    simp only [List.cons_append, lookR]
    cases Nat.beq p.1 j with
    | true => rfl
    | false => simpa using ih
theorem lookR_cons (i : Nat) (r : AV) (a : List (Nat × AV)) (j : Nat) : lookR ((i, r) :: a) j = if i = j then some r else lookR a j := by
  by_cases h : i = j
  · subst h; simp [lookR]
  · simp [lookR, h, beq_ne h]
theorem srcOf_mem {s : List (Nat × Nat)} {t j : Nat} (h : srcOf s t = some j) : (t, j) ∈ s := by
  induction s with
  | nil => simp [srcOf] at h
  | cons p s ih =>
    simp only [srcOf] at h
    cases hb : Nat.beq p.1 t with
    | true =>
      simp only [hb, cond_true, Option.some.injEq] at h
      have := Nat.eq_of_beq_eq_true hb
      subst h; subst this; exact List.mem_cons_self
    | false => simp only [hb, cond_false] at h; exact List.mem_cons_of_mem _ (ih h)
theorem envOf_congr {σ0 : AEnv} {a b : List (Nat × AV)} {s : List (Nat × Nat)} (h : ∀ t j, srcOf s t = some j → lookR a j = lookR b j) : ∀ ts, envOf σ0 a s ts = envOf σ0 b s ts
  | [] => rfl
  | t :: ts => by
    simp only [envOf]
    cases hs : srcOf s t with
    | none => simp only [envOf_congr h ts]
    | some j => simp only [h t j hs, envOf_congr h ts]
theorem envOf_look {σ0 : AEnv} {acc : List (Nat × AV)} {s : List (Nat × Nat)} : ∀ {ts : List Nat} {t : Nat} {a : AV}, lookA (envOf σ0 acc s ts) t = some a → t ∈ ts ∧ (match srcOf s t with | none => lookA σ0 t | some j => lookR acc j) = some a
  | [], t, a, h => by simp [envOf, lookA] at h
  | u :: ts, t, a, h => by
    simp only [envOf] at h
    split at h
    · rename_i b hb
      rw [lookA_cons] at h
      by_cases e : u = t
      · subst e; simp at h; subst h; exact ⟨List.mem_cons_self, hb⟩
      · rw [if_neg e] at h
        have := envOf_look h
        exact ⟨List.mem_cons_of_mem _ this.1, this.2⟩
    · have := envOf_look h
      exact ⟨List.mem_cons_of_mem _ this.1, this.2⟩
theorem envOf_get {σ0 : AEnv} {acc : List (Nat × AV)} {s : List (Nat × Nat)} {t : Nat} {a : AV} (h : (match srcOf s t with | none => lookA σ0 t | some j => lookR acc j) = some a) : ∀ {ts : List Nat}, t ∈ ts → lookA (envOf σ0 acc s ts) t = some a
  | [], hm => by cases hm
  | u :: ts, hm => by
    by_cases e : u = t
    · subst e
      cases hs : srcOf s u with
      | none => simp only [hs] at h; simp only [envOf, hs, h]; rw [lookA_cons, if_pos rfl]
      | some j => simp only [hs] at h; simp only [envOf, hs, h]; rw [lookA_cons, if_pos rfl]
    · have hm' : t ∈ ts := by
        rcases List.mem_cons.1 hm with h1 | h1
        · exact absurd h1.symm e
        · exact h1
      simp only [envOf]
      split
      · rw [lookA_cons, if_neg e]; exact envOf_get h hm'
      · exact envOf_get h hm'
/-- An operation that turns no own memory, whatever there is. -/
def opOkC (ops : Array Oper) (n : Nat) (ss : List (List (Nat × Nat))) (i : Nat) : Bool :=
  match ops[i]?, ss[i]? with
  | some o, some s => (opTmps o).all (readOk ops n i s) &&
    (match o.guard with | none => true | some (g, _) => Nat.blt g n && Region.waitsFor .any ops i g && ((ops[g]?).bind (·.dst)).isSome)
  | _, _ => false
def dstsOkC (ops : Array Oper) (n : Nat) : Bool := (List.range n).all fun i => (List.range i).all fun j => match (ops[i]?).bind (·.dst) with | some d => !((ops[j]?).bind (·.dst) == some d) | none => true
def phiOkC (ops : Array Oper) (n : Nat) (ss : List (List (Nat × Nat))) : Bool :=
  Nat.ble n ops.size && edgesBack ops && (List.range n).all (opOkC ops n ss) && dstsOkC ops n &&
  (n == ops.size || (Region.sinkB .any ops n && Region.chainB .any ops n)) && Region.seqB .any ops (ops.size - n) n (headAll ops.size n)
theorem put_defers (a : Act) (d : Option Nat) (v : Value) : (a.put d v).defers = a.defers := by cases d <;> rfl
theorem put_size (a : Act) (d : Option Nat) (v : Value) : (a.put d v).tmps.size = a.tmps.size := by cases d <;> simp [Act.put]
theorem put_ne (a : Act) {d : Option Nat} {t : Nat} (v : Value) (h : d ≠ some t) : (a.put d v).tmps[t]? = a.tmps[t]? := by
  cases d with
  | none => rfl
  | some d => simp [Act.put, Array.getElem?_setIfInBounds_ne (show d ≠ t from fun e => h (by rw [e]))]
theorem put_eq (a : Act) {d : Nat} (v : Value) (h : d < a.tmps.size) : (a.put (some d) v).tmps[d]? = some v := by simp [Act.put, h]
def dutyQ (P : Program) (N : Nat) (C : Ctx) (σ0 : AEnv) {ι : Type 1} (HT : ι → AHeap) (accP : List (Nat × AV)) (o : Oper) (s : List (Nat × Nat)) (r : AV) : Prop := ∀ Hp, dutyA P N C σ0 (HT Hp) accP o s r
structure CInv (P : Program) (C : Ctx) (N n : Nat) (l : List Oper) (ci : List Nat) (cl : List (Nat × Oper × List (Nat × Nat))) (σ0 : AEnv) {ι : Type 1} (HT : ι → AHeap) (accP : List (Nat × AV)) (F : List (Nat × AV) → AHeap → Prop) (ρ0 : Env) (I : Im)
    (listed : Array Bool) (k : Nat) (cacc : List (Nat × AV)) (H : AHeap) (J : Im) (L : Lh) (vs : Nat → Value) (a : Act) (w : World) : Prop where
  head : HeadInv .any l.toArray n listed
  le : Le I J
  im0 : Le C.I0 J
  st : St C J L w
  heap : repH C.w0.heap.size J H L
  kle : k ≤ ci.length
  ch : ∀ m i, ci[m]? = some i → (listed.getD i false = true ↔ m < k)
  pl : planK P C N σ0 HT accP F (cl.drop k) cacc H
  keys : ∀ j r, lookR cacc j = some r → j ∈ ci
  prom : ∀ j r r0, lookR cacc j = some r → lookR accP j = some r0 → r = r0
  proL : ∀ j, j ∈ ci → listed.getD j false = true → ∃ r, lookR cacc j = some r
  val : ∀ j, j < n → listed.getD j false = true → ∃ r, lookR (cacc ++ accP) j = some r ∧ RepV J r (vs j)
  defers : a.defers = []
  size : a.tmps.size = N
  tmpI : ∀ j d, j < n → listed.getD j false = true → (l.toArray[j]?).bind (·.dst) = some d → a.tmps[d]? = some (vs j)
  tmpO : ∀ t v, Fl.look ρ0 t = some v → (∀ j, j < n → listed.getD j false = true → (l.toArray[j]?).bind (·.dst) ≠ some t) → a.tmps[t]? = some v
section
variable {P : Program} {C : Ctx} {N n : Nat} {l : List Oper} {ci : List Nat} {cl : List (Nat × Oper × List (Nat × Nat))} {ss : List (List (Nat × Nat))} {σ0 : AEnv} {ι : Type 1} {HT : ι → AHeap} {accP : List (Nat × AV)} {F : List (Nat × AV) → AHeap → Prop} {ρ0 : Env} {I : Im} {L0 : Lh} {H0 : AHeap}
theorem CInv.step {listed : Array Bool} {k : Nat} {cacc : List (Nat × AV)} {H : AHeap} {J : Im} {L : Lh} {vs : Nat → Value} {a : Act} {w : World} {Q' : Exit → Act → World → Prop}
    (h0 : RSt C I L0 σ0 H0 ρ0) (hN : dstOk N l = true) (hok : ∀ i, i < n → opOkC l.toArray n ss i = true) (hdst : dstsOkC l.toArray n = true) (hch : chainOk l.toArray n ss ci = true)
    (hcl : ∀ (m i : Nat) (o : Oper) (s : List (Nat × Nat)), ci[m]? = some i → l[i]? = some o → ss[i]? = some s → cl[m]? = some (i, o, s)) (hnd : ci.Nodup)
    (hp : ∀ i o s, i < n → i ∉ ci → l[i]? = some o → ss[i]? = some s → ∃ r, lookR accP i = some r ∧ dutyQ P N C σ0 HT accP o s r)
    (inv : CInv P C N n l ci cl σ0 HT accP F ρ0 I listed k cacc H J L vs a w) {i : Nat} (hr : i ∈ Region.ready .any l.toArray listed) (hin : i < n)
    {K : Act → World → Prop} (hK : ∀ k cacc H J L vs a' w, CInv P C N n l ci cl σ0 HT accP F ρ0 I (listed.setIfInBounds i true) k cacc H J L vs a' w → K a' w) :
    wpOp P l.toArray Q' i K a w := by
  obtain ⟨hun, o, ho, hall⟩ := mem_ready.1 hr
  have hol : l[i]? = some o := by simpa using ho
  have hok' := hok i hin
  unfold opOkC at hok'
  simp only [ho] at hok'
  cases hs : ss[i]? with
  | none => simp [hs] at hok'
  | some s =>
  simp only [hs, Bool.and_eq_true] at hok'
  obtain ⟨hreads, hguard⟩ := hok'
  have hdN : ∀ d, o.dst = some d → d < N := fun d hod => by
    have := List.all_eq_true.1 hN o (List.mem_of_getElem? hol)
    rw [hod] at this
    simpa [Nat.blt_eq] using this
  have hlisted : ∀ j, Region.waitsFor .any l.toArray i j = true → listed.getD j false = true := fun j hw => by
    obtain ⟨e, he, hb, heq⟩ := waits_mem ho hw
    exact heq ▸ hall e he hb
  have hilt : i < listed.size := by
    rcases Nat.lt_or_ge i listed.size with h' | h'
    · exact h'
    · simp [Array.getElem?_eq_none h'] at hun
  have hiun : listed.getD i false = false := getD_both hun
  have hnot : ∀ j, Region.waitsFor .any l.toArray j i = true → listed.getD j false = true → False := fun j hw hl => by
    obtain ⟨oj, hoj, e, he, hb, heq⟩ := Region.waitsFor_spec hw
    have := inv.head.closed j oj hoj hl e he hb
    rw [heq, hiun] at this
    cases this
  have hch1 := hch
  unfold chainOk at hch1
  let g : Nat → Option Value := fun t => match srcOf s t with | some j => some (vs j) | none => Fl.look ρ0 t
  have hsrcl : ∀ t ∈ opTmps o, ∀ j, srcOf s t = some j → j < n ∧ listed.getD j false = true ∧ (l.toArray[j]?).bind (·.dst) = some t := fun t ht j hj => by
    have hro := List.all_eq_true.1 hreads t ht
    unfold readOk at hro
    simp only [hj, Bool.and_eq_true, beq_iff_eq] at hro
    exact ⟨by simpa [Nat.blt_eq] using hro.1.1, hlisted j hro.2, hro.1.2⟩
  have hfits : Fits N (mkEnv g (opTmps o)) a := by
    refine ⟨inv.defers, inv.size, fun t v hv => ?_⟩
    obtain ⟨hmem, hg⟩ := look_mkEnv hv
    cases hsrc : srcOf s t with
    | some j =>
      obtain ⟨h1, h2, h3⟩ := hsrcl t hmem j hsrc
      have hgv : vs j = v := by simpa [g, hsrc] using hg
      rw [← hgv]
      exact inv.tmpI j t h1 h2 h3
    | none =>
      have hro := List.all_eq_true.1 hreads t hmem
      unfold readOk at hro
      simp only [hsrc] at hro
      refine inv.tmpO t v (by simpa [g, hsrc] using hg) fun j hj hl hdj => ?_
      have h1 := List.all_eq_true.1 hro j (List.mem_range.2 hj)
      simp only [hdj, beq_self_eq_true, Bool.not_true, Bool.false_or, Bool.or_eq_true, beq_iff_eq] at h1
      rcases h1 with h1 | h1
      · subst h1; rw [hiun] at hl; cases hl
      · exact hnot j h1 hl
  have henv : ∀ t b, lookA (envOf σ0 (cacc ++ accP) s (opTmps o)) t = some b → ∃ u, Fl.look (mkEnv g (opTmps o)) t = some u ∧ RepV J b u := fun t b hb => by
    obtain ⟨hmem, hb2⟩ := envOf_look hb
    cases hsrc : srcOf s t with
    | some j =>
      simp only [hsrc] at hb2
      obtain ⟨h1, h2, _⟩ := hsrcl t hmem j hsrc
      obtain ⟨r, h3, h4⟩ := inv.val j h1 h2
      rw [hb2] at h3
      cases h3
      exact ⟨vs j, by rw [look_mkEnv_mem hmem]; simp [g, hsrc], h4⟩
    | none =>
      simp only [hsrc] at hb2
      obtain ⟨u, h1, h2⟩ := h0.env t b hb2
      exact ⟨u, by rw [look_mkEnv_mem hmem]; simpa [g, hsrc] using h1, h2.mono inv.le⟩
  have hR : RSt C J L (envOf σ0 (cacc ++ accP) s (opTmps o)) H (mkEnv g (opTmps o)) := ⟨henv, inv.heap, inv.im0⟩
  have hput : ∀ j, j ≠ i → (listed.setIfInBounds i true).getD j false = listed.getD j false := fun j hj => getD_set_ne false (Ne.symm hj)
  have hdne : ∀ j, j < n → j ≠ i → ∀ d', (l.toArray[j]?).bind (·.dst) = some d' → o.dst ≠ some d' := by
    intro j hj hji d' hd' hod
    have hdi : (l.toArray[i]?).bind (·.dst) = some d' := by rw [ho]; exact hod
    rcases Nat.lt_or_gt_of_ne hji with h1 | h1
    · have := List.all_eq_true.1 (List.all_eq_true.1 hdst i (List.mem_range.2 hin)) j (List.mem_range.2 h1)
      rw [hdi, hd'] at this
      simp at this
    · have := List.all_eq_true.1 (List.all_eq_true.1 hdst j (List.mem_range.2 hj)) i (List.mem_range.2 h1)
      rw [hdi, hd'] at this
      simp at this
  -- what a finished operation does
  have fin : ∀ v J' L' H' k' cacc' w' r, Le J J' → St C J' L' w' → repH C.w0.heap.size J' H' L' → RepV J' r v → lookR (cacc' ++ accP) i = some r → (∀ j, j ≠ i → lookR (cacc' ++ accP) j = lookR (cacc ++ accP) j) → k' ≤ ci.length →
      (∀ m i', ci[m]? = some i' → ((listed.setIfInBounds i true).getD i' false = true ↔ m < k')) → planK P C N σ0 HT accP F (cl.drop k') cacc' H' → (∀ j r, lookR cacc' j = some r → j ∈ ci) → (∀ j r r0, lookR cacc' j = some r → lookR accP j = some r0 → r = r0) → (∀ j, j ∈ ci → (listed.setIfInBounds i true).getD j false = true → ∃ r, lookR cacc' j = some r) → K (a.put o.dst v) w' := by
    intro v J' L' H' k' cacc' w' r hle hst hH hv hri hrj hk' hch' hpl hkeys hprom hproL
    refine hK k' cacc' H' J' L' (fun j => if j = i then v else vs j) _ _ ⟨inv.head.set hr hin, inv.le.trans hle, inv.im0.trans hle, hst, hH, hk', hch', hpl, hkeys, hprom, hproL, fun j hj hl => ?_, ?_, ?_, fun j d' hj hl hd' => ?_, fun t u hu hno => ?_⟩
    · by_cases hji : j = i
      · subst hji
        exact ⟨r, hri, by simpa using hv⟩
      · rw [hput j hji] at hl
        obtain ⟨q, h1, h2⟩ := inv.val j hj hl
        exact ⟨q, (hrj j hji).trans h1, by simpa [hji] using h2.mono hle⟩
    · rw [put_defers]; exact inv.defers
    · rw [put_size]; exact inv.size
    · by_cases hji : j = i
      · subst hji
        have hod : o.dst = some d' := by rw [ho] at hd'; exact hd'
        rw [hod, put_eq _ _ (by rw [inv.size]; exact hdN d' hod), if_pos rfl]
      · rw [hput j hji] at hl
        rw [put_ne _ _ (hdne j hj hji d' hd'), if_neg hji]
        exact inv.tmpI j d' hj hl hd'
    · rw [put_ne _ _ (fun hod => hno i hin (getD_set_true' hilt) (by rw [ho]; exact hod))]
      refine inv.tmpO t u hu fun j hj hl => hno j hj ?_
      by_cases hji : j = i
      · subst hji; rw [hiun] at hl; cases hl
      · rw [hput j hji]; exact hl
  -- the guard
  have hgrd : ∀ gi want, o.guard = some (gi, want) → ∀ b, lookR accP gi = some (.v b) → yielded l.toArray a.tmps gi = some b := fun gi want hg b hb => by
    rw [hg] at hguard
    simp only [Bool.and_eq_true] at hguard
    have hgn : gi < n := by simpa [Nat.blt_eq] using hguard.1.1
    have hgl := hlisted gi hguard.1.2
    obtain ⟨r, h1, h2⟩ := inv.val gi hgn hgl
    have hr2 : r = .v b := by
      rw [lookR_append] at h1
      cases hc : lookR cacc gi with
      | some q =>
        rw [hc] at h1
        cases h1
        exact inv.prom gi _ _ hc hb
      | none =>
        rw [hc] at h1
        simp only at h1
        rw [hb] at h1
        exact (Option.some.inj h1).symm
    subst hr2
    obtain ⟨cs, rfl, hvs⟩ := h2
    obtain ⟨dg, hdg0⟩ := Option.isSome_iff_exists.1 hguard.2
    obtain ⟨og, hog, hdg⟩ := Option.bind_eq_some_iff.1 hdg0
    have htg := inv.tmpI gi dg hgn hgl (by rw [hog]; exact hdg)
    rw [hvs] at htg
    unfold yielded
    rw [hog]
    simp only [Option.bind_some, hdg, htg]
    rfl
  unfold wpOp
  simp only [ho]
  by_cases hic : i ∈ ci
  · obtain ⟨m, hm⟩ := List.mem_iff_getElem?.1 hic
    have hmk : ¬ m < k := fun h => by
      have := (inv.ch m i hm).2 h
      rw [hiun] at this; cases this
    have hml : m < ci.length := (List.getElem?_eq_some_iff.1 hm).1
    have hkm : m ≤ k := by
      cases m with
      | zero => omega
      | succ mj =>
        have h1 := List.all_eq_true.1 hch1 (mj + 1) (List.mem_range.2 hml)
        simp only [hm, Bool.and_eq_true] at h1
        cases hj : ci[mj]? with
        | none => simp [hj] at h1
        | some j =>
          simp only [hj, Bool.and_eq_true] at h1
          have := (inv.ch mj j hj).1 (hlisted j h1.2.2)
          omega
    have hmk' : m = k := by omega
    subst hmk'
    have hc := hcl m i o s hm hol hs
    have hdrop : cl.drop m = (i, o, s) :: cl.drop (m + 1) := by
      have hlt := (List.getElem?_eq_some_iff.1 hc).1
      rw [List.drop_eq_getElem_cons hlt]
      congr 1
      rw [List.getElem?_eq_getElem hlt] at hc
      exact Option.some.inj hc
    have hpl := inv.pl
    rw [hdrop, planK] at hpl
    replace hpl := hpl.2
    have hch' : ∀ mj i', ci[mj]? = some i' → ((listed.setIfInBounds i true).getD i' false = true ↔ mj < m + 1) := fun mj i' hm' => by
      by_cases e : i' = i
      · subst e
        have hlj := (List.getElem?_eq_some_iff.1 hm').1
        have heq : ci[mj]'hlj = ci[m]'hml := by rw [(List.getElem?_eq_some_iff.1 hm').2, (List.getElem?_eq_some_iff.1 hm).2]
        have : mj = m := by
          rcases Nat.lt_trichotomy mj m with h | h | h
          · exact absurd heq ((List.pairwise_iff_getElem.1 hnd) mj m hlj hml h)
          · exact h
          · exact absurd heq.symm ((List.pairwise_iff_getElem.1 hnd) m mj hml hlj h)
        exact ⟨fun _ => by omega, fun _ => getD_set_true' hilt⟩
      · rw [hput i' e, inv.ch mj i' hm']
        have : mj ≠ m := by
          rintro rfl
          rw [hm] at hm'; exact e (Option.some.inj hm').symm
        omega
    have hkeys : ∀ r, ∀ j q, lookR ((i, r) :: cacc) j = some q → j ∈ ci := fun r j q hq => by
      rw [lookR_cons] at hq
      by_cases e : i = j
      · subst e; exact hic
      · rw [if_neg e] at hq; exact inv.keys j q hq
    have hself : ∀ r, lookR ((i, r) :: cacc ++ accP) i = some r := fun r => by rw [List.cons_append, lookR_cons, if_pos rfl]
    have hoth : ∀ r j, j ≠ i → lookR ((i, r) :: cacc ++ accP) j = lookR (cacc ++ accP) j := fun r j hj => by rw [List.cons_append, lookR_cons, if_neg (Ne.symm hj)]
    have hprom : ∀ r, (∀ r0, lookR accP i = some r0 → r = r0) → ∀ j q r0, lookR ((i, r) :: cacc) j = some q → lookR accP j = some r0 → q = r0 := fun r hr0 j q r0 hq h0 => by
      rw [lookR_cons] at hq
      by_cases e : i = j
      · subst e; rw [if_pos rfl] at hq; cases hq; exact hr0 r0 h0
      · rw [if_neg e] at hq; exact inv.prom j q r0 hq h0
    have hproL : ∀ r, ∀ j, j ∈ ci → (listed.setIfInBounds i true).getD j false = true → ∃ q, lookR ((i, r) :: cacc) j = some q := fun r j hj hl => by
      by_cases e : i = j
      · subst e; exact ⟨r, by rw [lookR_cons, if_pos rfl]⟩
      · rw [hput j (Ne.symm e)] at hl
        obtain ⟨q, hq⟩ := inv.proL j hj hl
        exact ⟨q, by rw [lookR_cons, if_neg e]; exact hq⟩
    have run : ∀ (R : AV → AV), (∀ r r0, lookR accP i = some r0 → R r = r0) → ∀ Z : AV → Prop, (∀ r, Z r → ∀ J' u, RepV J' r u → RepV J' (R r) u) →
        OpH P C N o (envOf σ0 (cacc ++ accP) s (opTmps o)) H (fun r H' => Z r ∧ planK P C N σ0 HT accP F (cl.drop (m + 1)) ((i, R r) :: cacc) H') → o.wp P a w K Q' := fun R hR0 Z hZ h => by
      refine Yld.wp ((h _ J L hR a w hfits inv.st).mono ?_)
      rintro v w' ⟨J', L', hst, hle, r, H', h1, h2, h3, h4⟩
      exact fin v J' L' H' (m + 1) ((i, R r) :: cacc) w' (R r) hle hst h2 (hZ r h3 _ _ h1) (hself _) (hoth _) (by omega) hch' h4 (hkeys _) (hprom _ (hR0 r)) (hproL _)
    have skipd : ∀ b want r, o.guard.isSome = true → (∀ r0, lookR accP i = some r0 → r = r0) → RepV J r undef → planK P C N σ0 HT accP F (cl.drop (m + 1)) ((i, r) :: cacc) H → (b : Bool) = !want → K (a.put o.dst undef) w := fun b want r _ hr0 hu hp _ =>
      fin undef J L H (m + 1) ((i, r) :: cacc) w r (Le.refl J) inv.st inv.heap hu (hself r) (hoth r) (by omega) hch' hp (hkeys r) (hprom r hr0) (hproL r)
    cases hg : o.guard with
    | none =>
      rw [if_pos (by simp [Region.wanted, hg])]
      cases hpr : lookR accP i with
      | none =>
        rw [hg, hpr] at hpl
        exact .inl (run (fun r => r) (fun r r0 h => by rw [hpr] at h; cases h) (fun _ => True) (fun _ _ _ _ h => h) (by
          intro ρ' I' L' hs' a' w' ha' hst'
          exact Yld.mono (hpl ρ' I' L' hs' a' w' ha' hst') (fun v w'' ⟨J', L'', q1, q2, r, H', q3, q4, q5⟩ => ⟨J', L'', q1, q2, r, H', q3, q4, trivial, q5⟩)))
      | some r0 =>
        rw [hg, hpr] at hpl
        exact .inl (run (fun _ => r0) (fun r q h => by rw [hpr] at h; exact Option.some.inj h) (fun r => r = r0) (fun r hr _ _ h => hr ▸ h) hpl)
    | some gw =>
      obtain ⟨gi, want⟩ := gw
      cases hpr : lookR accP i with
      | none =>
        rw [hg, hpr] at hpl
        obtain ⟨b, hb, h1, h2⟩ := hpl
        have hy := hgrd gi want hg b hb
        by_cases hbw : b = want
        · rw [if_pos (by simp [Region.wanted, hg, hy, hbw])]
          exact .inl (run (fun r => r) (fun r r0 h => by rw [hpr] at h; cases h) (fun _ => True) (fun _ _ _ _ h => h) (by
            intro ρ' I' L' hs' a' w' ha' hst'
            exact Yld.mono (h1 hbw ρ' I' L' hs' a' w' ha' hst') (fun v w'' ⟨J', L'', q1, q2, r, H', q3, q4, q5⟩ => ⟨J', L'', q1, q2, r, H', q3, q4, trivial, q5⟩)))
        · have hwf : ¬ Region.wanted o (yielded l.toArray a.tmps) = true := by simpa [Region.wanted, hg, hy] using hbw
          rw [if_neg hwf]
          have hbn : b = !want := ne_not hbw
          exact skipd b want .any (by simp [hg]) (fun r0 h => by rw [hpr] at h; cases h) trivial (h2 hbn) hbn
      | some r0 =>
        rw [hg, hpr] at hpl
        obtain ⟨b, c, hb, rfl, h1, h2⟩ := hpl
        have hy := hgrd gi want hg b hb
        by_cases hbw : b = want
        · rw [if_pos (by simp [Region.wanted, hg, hy, hbw])]
          exact .inl (run (fun _ => .opt (b == want) c) (fun r q h => by rw [hpr] at h; exact Option.some.inj h) (fun r => r = c) (fun r hr J' u h _ => hr ▸ h) (h1 hbw))
        · have hwf : ¬ Region.wanted o (yielded l.toArray a.tmps) = true := by simpa [Region.wanted, hg, hy] using hbw
          rw [if_neg hwf]
          have hbn : b = !want := ne_not hbw
          exact skipd b want (.opt (b == want) c) (by simp [hg]) (fun q h => by rw [hpr] at h; exact Option.some.inj h) (fun hc => absurd (by simpa using hc) hbw) (h2 hbn) hbn
  · obtain ⟨r, hri, hd⟩ := hp i o s hin hic hol hs
    have hcn : ∀ j, j ∉ ci → lookR cacc j = none := fun j hj => by
      cases hc : lookR cacc j with
      | none => rfl
      | some q => exact absurd (inv.keys j q hc) hj
    have hself : lookR (cacc ++ accP) i = some r := by rw [lookR_append, hcn i hic]; exact hri
    have hRq : RSt C J L (envOf σ0 accP s (opTmps o)) H (mkEnv g (opTmps o)) := hR.sub fun t b hb => by
      obtain ⟨hmem, hb2⟩ := envOf_look hb
      refine envOf_get ?_ hmem
      cases hsrc : srcOf s t with
      | none => simp only [hsrc] at hb2 ⊢; exact hb2
      | some j =>
        simp only [hsrc] at hb2 ⊢
        rw [lookR_append]
        cases hc : lookR cacc j with
        | none => exact hb2
        | some q => exact congrArg some (inv.prom j q b hc hb2)
    have hproL : ∀ j, j ∈ ci → (listed.setIfInBounds i true).getD j false = true → ∃ q, lookR cacc j = some q := fun j hj hl => by
      have : j ≠ i := by rintro rfl; exact hic hj
      rw [hput j this] at hl; exact inv.proL j hj hl
    have hch' : ∀ mj i', ci[mj]? = some i' → ((listed.setIfInBounds i true).getD i' false = true ↔ mj < k) := fun mj i' hm' => by
      have : i' ≠ i := by rintro rfl; exact hic (List.mem_of_getElem? hm')
      rw [hput i' this]; exact inv.ch mj i' hm'
    obtain ⟨Hp, hHp⟩ := inv.pl.tail
    have hdH := hd Hp
    rw [← hHp] at hdH
    unfold dutyA at hdH
    have run : ∀ (c : AV), OpP P N C o (envOf σ0 accP s (opTmps o)) H (fun r' => r' = c) → (∀ J' u, RepV J' c u → RepV J' r u) → o.wp P a w K Q' := fun c h hcr => by
      refine Yld.wp ((h _ J L hRq a w hfits inv.st.mem).mono ?_)
      rintro v w' ⟨J', X, hc, hle, hn, hm, hX, rfl, r', h1, rfl⟩
      have hst := (inv.st.step hc hle hn hm hX)
      rw [List.nil_append] at hst
      exact fin v J' L H k cacc w' r hle hst (inv.heap.mono hle) (hcr _ _ h1) hself (fun j hj => rfl) inv.kle hch' inv.pl inv.keys inv.prom hproL
    cases hg : o.guard with
    | none =>
      rw [hg] at hdH
      rw [if_pos (by simp [Region.wanted, hg])]
      exact .inl (run r hdH (fun _ _ h => h))
    | some gw =>
      obtain ⟨gi, want⟩ := gw
      rw [hg] at hdH
      obtain ⟨b, c, hb, rfl, h2⟩ := hdH
      have hy := hgrd gi want hg b hb
      by_cases hbw : b = want
      · rw [if_pos (by simp [Region.wanted, hg, hy, hbw])]
        exact .inl (run c (h2 hbw) (fun _ _ h _ => h))
      · have hwf : ¬ Region.wanted o (yielded l.toArray a.tmps) = true := by simpa [Region.wanted, hg, hy] using hbw
        rw [if_neg hwf]
        exact fin undef J L H k cacc w (.opt (b == want) c) (Le.refl J) inv.st inv.heap (fun hc => absurd (by simpa using hc) hbw) hself (fun j hj => rfl) inv.kle hch' inv.pl inv.keys inv.prom hproL
theorem wpAny_C {Q' : Exit → Act → World → Prop} (h0 : RSt C I L0 σ0 H0 ρ0) (hN : dstOk N l = true) (hback : edgesBack l.toArray = true) (hok : ∀ i, i < n → opOkC l.toArray n ss i = true) (hdst : dstsOkC l.toArray n = true) (hch : chainOk l.toArray n ss ci = true)
    (hcl : ∀ (m i : Nat) (o : Oper) (s : List (Nat × Nat)), ci[m]? = some i → l[i]? = some o → ss[i]? = some s → cl[m]? = some (i, o, s)) (hnd : ci.Nodup)
    (hp : ∀ i o s, i < n → i ∉ ci → l[i]? = some o → ss[i]? = some s → ∃ r, lookR accP i = some r ∧ dutyQ P N C σ0 HT accP o s r)
    (hle : n ≤ l.length) (htail : n = l.length ∨ (Region.sinkB .any l.toArray n = true ∧ Region.chainB .any l.toArray n = true)) (hseq : Region.seqB .any l.toArray (l.length - n) n (headAll l.length n) = true)
    (hfin : ∀ listed k cacc H J L vs a w, CInv P C N n l ci cl σ0 HT accP F ρ0 I listed k cacc H J L vs a w → (∀ j, j < n → listed.getD j false = true) → wpList P l.toArray Q' (l.drop n) a w) :
    ∀ (m : Nat) (listed : Array Bool) k cacc H J L vs a w, CInv P C N n l ci cl σ0 HT accP F ρ0 I listed k cacc H J L vs a w → unl listed n = m → wpAny P .any l.toArray Q' (m + (l.length - n)) listed a w
  | 0, listed, k, cacc, H, J, L, vs, a, w, inv, hm => by
    have hsz : listed.size = l.length := by simpa using inv.head.size
    have hall : ∀ j, j < n → listed.getD j false = true := fun j hj => getD_both' (by omega) (unl_zero hm j hj)
    have heq : listed = headAll l.length n := by
      refine Array.ext (by simp [headAll, hsz]) fun j h1 h2 => ?_
      have e1 : (headAll l.length n)[j]'h2 = Nat.blt j n := by simp [headAll]
      rw [e1]
      by_cases hj : j < n
      · have := hall j hj
        simp [h1] at this
        rw [this]
        exact (Nat.blt_eq ▸ hj : Nat.blt j n = true).symm
      · have := inv.head.tail j (by omega) (by simp; omega)
        simp [h1] at this
        rw [this]
        cases hb : Nat.blt j n
        · rfl
        · exact absurd (Nat.blt_eq ▸ hb : j < n) hj
    have hw := hfin listed k cacc H J L vs a w inv hall
    have h2 := wpAny_of_seq (md := .any) (Q' := Q') (l.drop n) n listed a w (fun j => by simp [List.getElem?_drop]) (by rw [heq]; simpa using hseq) hw
    simpa using h2
  | m + 1, listed, k, cacc, H, J, L, vs, a, w, inv, hm => by
    have hsz : listed.size = l.length := by simpa using inv.head.size
    obtain ⟨i, hin, hi, hlt⟩ := unl_pos hm
    have hr := ready_of_least hback (by simpa using inv.head.size) hi hlt
    rw [show m + 1 + (l.length - n) = (m + (l.length - n)) + 1 by omega]
    refine ⟨fun h0 => (by rw [h0] at hr; cases hr), fun j hj => ?_⟩
    have hjn : j < n := by
      rcases Nat.lt_or_ge j n with h | h
      · exact h
      · rcases htail with ht | ⟨hs, hc⟩
        · obtain ⟨_, o, ho, _⟩ := mem_ready.1 hj
          have := (Array.getElem?_eq_some_iff.1 ho).1
          simp at this
          omega
        · have hnl : n < l.toArray.size := by
            obtain ⟨_, o, ho, _⟩ := mem_ready.1 hj
            have := (Array.getElem?_eq_some_iff.1 ho).1
            omega
          exact absurd hj (tail_waits hs hc hnl inv.head _ i rfl hin hi j h)
    refine inv.step h0 hN hok hdst hch hcl hnd hp hj hjn fun k' cacc' H' J' L' vs' a' w' inv' => ?_
    refine wpAny_C h0 hN hback hok hdst hch hcl hnd hp hle htail hseq hfin m _ k' cacc' H' J' L' vs' a' w' inv' ?_
    have hu := (mem_ready.1 hj).1
    have := unl_set hu hjn
    omega
end
/-- The pure operations one after the other; of those of the chain the results may be foretold. -/
def chainP (P : Program) (N : Nat) (C : Ctx) (σ0 : AEnv) {ι : Type 1} (HT : ι → AHeap) (ci : List Nat) (F : List (Nat × AV) → Prop) : List Oper → List (List (Nat × Nat)) → Nat → List (Nat × AV) → Prop
  | [], _, _, acc => F acc
  | o :: os, s :: ss, k, acc => bif ci.contains k then chainP P N C σ0 HT ci F os ss (k + 1) acc ∨ ∃ r, chainP P N C σ0 HT ci F os ss (k + 1) ((k, r) :: acc) else ∃ r, dutyQ P N C σ0 HT acc o s r ∧ chainP P N C σ0 HT ci F os ss (k + 1) ((k, r) :: acc)
  | _, [], _, _ => False
def clOf (l : List Oper) (ss : List (List (Nat × Nat))) : List Nat → List (Nat × Oper × List (Nat × Nat))
  | [] => []
  | i :: r => match l[i]?, ss[i]? with
    | some o, some s => (i, o, s) :: clOf l ss r
    | _, _ => clOf l ss r
theorem clOf_get {l : List Oper} {ss : List (List (Nat × Nat))} : ∀ (ci : List Nat), (∀ i ∈ ci, ∃ o s, l[i]? = some o ∧ ss[i]? = some s) → ∀ (m i : Nat) (o : Oper) (s : List (Nat × Nat)), ci[m]? = some i → l[i]? = some o → ss[i]? = some s → (clOf l ss ci)[m]? = some (i, o, s)
  | [], _, m, i, o, s, h, _, _ => by simp at h
  | j :: r, h0, m, i, o, s, h, h1, h2 => by
    obtain ⟨o', s', h3, h4⟩ := h0 j List.mem_cons_self
    simp only [clOf, h3, h4]
    cases m with
    | zero =>
      simp only [List.getElem?_cons_zero, Option.some.injEq] at h ⊢
      subst h
      rw [h1] at h3; rw [h2] at h4
      cases h3; cases h4; rfl
    | succ m => simpa using clOf_get r (fun i hi => h0 i (List.mem_cons_of_mem _ hi)) m i o s (by simpa using h) h1 h2
theorem dutyA_congr {P : Program} {N : Nat} {C : Ctx} {σ0 : AEnv} {H : AHeap} {acc acc' : List (Nat × AV)} {o : Oper} {s : List (Nat × Nat)} {r : AV} (h : dutyA P N C σ0 H acc o s r) (h1 : ∀ t j, srcOf s t = some j → lookR acc j = lookR acc' j) (h2 : ∀ g w, o.guard = some (g, w) → lookR acc g = lookR acc' g) :
    dutyA P N C σ0 H acc' o s r := by
  unfold dutyA at *
  rw [← envOf_congr h1]
  cases hg : o.guard with
  | none => rw [hg] at h; exact h
  | some p =>
    obtain ⟨g, w⟩ := p
    rw [hg] at h
    simp only at h ⊢
    rw [← h2 g w hg]; exact h
theorem chainP_elim {P : Program} {N : Nat} {C : Ctx} {σ0 : AEnv} {ι : Type 1} {HT : ι → AHeap} {ci : List Nat} {F : List (Nat × AV) → Prop} : ∀ (os : List Oper) (ss : List (List (Nat × Nat))) (k : Nat) (acc : List (Nat × AV)), (∀ j r, lookR acc j = some r → j < k) → chainP P N C σ0 HT ci F os ss k acc →
    ∃ full, F full ∧ (∀ j, j < k → lookR full j = lookR acc j) ∧
      ∀ i o s, os[i]? = some o → ss[i]? = some s → k + i ∉ ci → ∃ r acc', lookR full (k + i) = some r ∧ dutyQ P N C σ0 HT acc' o s r ∧ ∀ j, j < k + i → lookR acc' j = lookR full j
  | [], ss, k, acc, hacc, h => ⟨acc, by cases ss <;> exact h, fun _ _ => rfl, fun i o s ho => by simp at ho⟩
  | o :: os, [], k, acc, _, h => h.elim
  | o :: os, s :: ss, k, acc, hacc, h => by
    simp only [chainP] at h
    have hacc2 : ∀ r, ∀ j q, lookR ((k, r) :: acc) j = some q → j < k + 1 := fun r j q hj => by
      rw [lookR_cons] at hj
      by_cases e : k = j
      · omega
      · rw [if_neg e] at hj; have := hacc j q hj; omega
    cases hc : ci.contains k with
    | true =>
      rw [hc] at h
      simp only [cond_true] at h
      have fin : ∀ acc2, (∀ j, j < k → lookR acc2 j = lookR acc j) → (∀ j r, lookR acc2 j = some r → j < k + 1) → chainP P N C σ0 HT ci F os ss (k + 1) acc2 → ∃ full, F full ∧ (∀ j, j < k → lookR full j = lookR acc j) ∧
          ∀ i o' s', (o :: os)[i]? = some o' → (s :: ss)[i]? = some s' → k + i ∉ ci → ∃ r acc', lookR full (k + i) = some r ∧ dutyQ P N C σ0 HT acc' o' s' r ∧ ∀ j, j < k + i → lookR acc' j = lookR full j := fun acc2 ha hb h => by
        obtain ⟨full, hF, h1, h3⟩ := chainP_elim os ss (k + 1) acc2 hb h
        refine ⟨full, hF, fun j hj => (h1 j (by omega)).trans (ha j hj), fun i o' s' ho hs hni => ?_⟩
        cases i with
        | zero => exact absurd (by simpa using hc) hni
        | succ i =>
          have e : k + (i + 1) = k + 1 + i := by omega
          rw [e]
          exact h3 i o' s' (by simpa using ho) (by simpa using hs) (by rw [← e]; exact hni)
      rcases h with h | ⟨r, h⟩
      · exact fin acc (fun _ _ => rfl) (fun j r hj => Nat.lt_succ_of_lt (hacc j r hj)) h
      · exact fin ((k, r) :: acc) (fun j hj => by rw [lookR_cons, if_neg (by omega)]) (hacc2 r) h
    | false =>
      rw [hc] at h
      simp only [cond_false] at h
      obtain ⟨r, hd, h⟩ := h
      obtain ⟨full, hF, h1, h3⟩ := chainP_elim os ss (k + 1) ((k, r) :: acc) (hacc2 r) h
      refine ⟨full, hF, fun j hj => by rw [h1 j (by omega), lookR_cons, if_neg (by omega)], fun i o' s' ho hs hni => ?_⟩
      cases i with
      | zero =>
        simp only [List.getElem?_cons_zero, Option.some.injEq] at ho hs
        subst ho; subst hs
        refine ⟨r, acc, by rw [Nat.add_zero, h1 k (by omega), lookR_cons, if_pos rfl], hd, fun j hj => ?_⟩
        rw [Nat.add_zero] at hj
        rw [h1 j (by omega), lookR_cons, if_neg (by omega)]
      | succ i =>
        have e : k + (i + 1) = k + 1 + i := by omega
        rw [e]
        exact h3 i o' s' (by simpa using ho) (by simpa using hs) (by rw [← e]; exact hni)
def finV (vs : Nat → Value) : List Oper → Nat → Env → Env
  | o :: os, k, ρ => match o.dst with
    | some d => finV vs os (k + 1) ((d, vs k) :: ρ)
    | none => finV vs os (k + 1) ρ
  | [], _, ρ => ρ
theorem finV_st {C : Ctx} {J : Im} {L : Lh} {H : AHeap} {acc : List (Nat × AV)} {vs : Nat → Value} : ∀ (os : List Oper) (k : Nat) (σ : AEnv) (ρ : Env), RSt C J L σ H ρ → (∀ i o, os[i]? = some o → ∃ r, lookR acc (k + i) = some r ∧ RepV J r (vs (k + i))) →
    RSt C J L (finA acc os k σ) H (finV vs os k ρ)
  | [], k, σ, ρ, hs, _ => hs
  | o :: os, k, σ, ρ, hs, hd => by
    obtain ⟨r, h1, h2⟩ := hd 0 o rfl
    simp only [Nat.add_zero] at h1 h2
    have hd' : ∀ i o', os[i]? = some o' → ∃ r, lookR acc (k + 1 + i) = some r ∧ RepV J r (vs (k + 1 + i)) := fun i o' ho => by
      have := hd (i + 1) o' (by simpa using ho)
      rwa [show k + (i + 1) = k + 1 + i by omega] at this
    cases ho : o.dst with
    | none => simp only [finA, finV, ho]; exact finV_st os (k + 1) σ ρ hs hd'
    | some d => simp only [finA, finV, ho, h1]; exact finV_st os (k + 1) _ _ (hs.put (Le.refl J) h2 hs.heap) hd'
theorem finV_fits {N : Nat} {vs : Nat → Value} {a : Act} (hd : a.defers = []) (hsz : a.tmps.size = N) : ∀ (os : List Oper) (k : Nat) (ρ : Env),
    (∀ (i : Nat) (o : Oper) (d : Nat), os[i]? = some o → o.dst = some d → a.tmps[d]? = some (vs (k + i))) → (∀ t v, Fl.look ρ t = some v → (∀ (i : Nat) (o : Oper), os[i]? = some o → o.dst ≠ some t) → a.tmps[t]? = some v) → Fits N (finV vs os k ρ) a
  | [], k, ρ, _, h => ⟨hd, hsz, fun t v hv => h t v hv (fun i o ho => by simp at ho)⟩
  | o :: os, k, ρ, hI, hO => by
    have hI' : ∀ (i : Nat) (o' : Oper) (d : Nat), os[i]? = some o' → o'.dst = some d → a.tmps[d]? = some (vs (k + 1 + i)) := fun i o' d ho hdd => by
      have := hI (i + 1) o' d (by simpa using ho) hdd
      rwa [show k + (i + 1) = k + 1 + i by omega] at this
    cases ho : o.dst with
    | none =>
      simp only [finV, ho]
      refine finV_fits hd hsz os (k + 1) ρ hI' fun t v hv hno => hO t v hv fun i o' ho' => ?_
      cases i with
      | zero => simp only [List.getElem?_cons_zero, Option.some.injEq] at ho'; subst ho'; rw [ho]; exact fun h => by cases h
      | succ i => exact hno i o' (by simpa using ho')
    | some d =>
      simp only [finV, ho]
      refine finV_fits hd hsz os (k + 1) _ hI' fun t v hv hno => ?_
      rw [Fl.look_cons] at hv
      by_cases e : d = t
      · subst e
        rw [if_pos rfl] at hv
        cases hv
        have := hI 0 o d rfl ho
        simpa using this
      · rw [if_neg e] at hv
        refine hO t v hv fun i o' ho' => ?_
        cases i with
        | zero =>
          simp only [List.getElem?_cons_zero, Option.some.injEq] at ho'
          subst ho'
          rw [ho]
          exact fun h => e (Option.some.inj h)
        | succ i => exact hno i o' (by simpa using ho')
theorem wpA.drawCK {P : Program} {C : Ctx} {N : Nat} {Q : Exit → AEnv → AHeap → Prop} {σ : AEnv} {H : AHeap} {id : Nat} {l : List Oper} {ι : Type 1} (HT : ι → AHeap) (hm : P.follows .mixedOrders = true) (n : Nat) (ss : List (List (Nat × Nat))) (ci : List Nat)
    (hN : dstOk N l = true) (hB : phiOkC l.toArray n ss = true) (hss : Nat.ble n ss.length = true) (hC : chainOk l.toArray n ss ci = true) (hnd : ci.Nodup)
    (h : chainP P N C σ HT ci (fun accP => planK P C N σ HT accP (fun cacc H' => wpB P C N l.toArray Q (l.drop n) (finA (cacc ++ accP) (l.take n) 0 σ) H') (clOf l ss ci) [] H) (l.take n) ss 0 []) :
    wpA P C N (.region id l.toArray true) Q σ H := fun ρ I L hs a w ha hst => by
  have hB0 := hB
  simp only [phiOkC, Bool.and_eq_true, Bool.or_eq_true] at hB
  obtain ⟨⟨⟨⟨⟨hle, hback⟩, hok⟩, hdst⟩, htail⟩, hseq⟩ := hB
  have hle' : n ≤ l.length := by simpa using Nat.le_of_ble_eq_true hle
  have hok' : ∀ i, i < n → opOkC l.toArray n ss i = true := fun i hi => List.all_eq_true.1 hok i (List.mem_range.2 hi)
  have hssl := Nat.le_of_ble_eq_true hss
  obtain ⟨full, hF, _, hd⟩ := chainP_elim (l.take n) ss 0 [] (fun j r hj => by simp [lookR] at hj) h
  have hC' := hC
  unfold chainOk at hC'
  have hcin : ∀ i ∈ ci, i < n := fun i hi => by
    obtain ⟨m, hm⟩ := List.mem_iff_getElem?.1 hi
    have h1 := List.all_eq_true.1 hC' m (List.mem_range.2 (List.getElem?_eq_some_iff.1 hm).1)
    simp only [hm, Bool.and_eq_true] at h1
    simpa [Nat.blt_eq] using h1.1
  have hcl := clOf_get (l := l) (ss := ss) ci (fun i hi => ⟨_, _, List.getElem?_eq_getElem (Nat.lt_of_lt_of_le (hcin i hi) hle'), List.getElem?_eq_getElem (Nat.lt_of_lt_of_le (hcin i hi) hssl)⟩)
  have hp : ∀ i o s, i < n → i ∉ ci → l[i]? = some o → ss[i]? = some s → ∃ r, lookR full i = some r ∧ dutyQ P N C σ HT full o s r := fun i o s hi hic ho hsi => by
    obtain ⟨r, acc', h1, h2, h3⟩ := hd i o s (by rw [List.getElem?_take, if_pos hi]; exact ho) hsi (by simpa using hic)
    rw [Nat.zero_add] at h1 h3
    refine ⟨r, h1, fun H' => ?_⟩
    have hoi := hok' i hi
    unfold opOkC at hoi
    have ho' : l.toArray[i]? = some o := by simpa using ho
    simp only [ho', hsi, Bool.and_eq_true] at hoi
    have hback' : ∀ j, Region.waitsFor .any l.toArray i j = true → j < i := fun j hw => by
      obtain ⟨e, he, hb, heq⟩ := waits_mem ho' hw
      have hil : i < l.toArray.size := (Array.getElem?_eq_some_iff.1 ho').1
      have h4 := List.all_eq_true.1 hback i (List.mem_range.2 hil)
      simp only [ho', Array.all_eq_true_iff_forall_mem] at h4
      have h5 := h4 e he
      rw [hb] at h5
      have : e.on < i := by simpa [Nat.blt_eq] using h5
      omega
    -- sources that are no operand are looked at too
    have henv : ∀ t ∈ opTmps o, ∀ j, srcOf s t = some j → lookR acc' j = lookR full j := fun t ht j hj => by
      have h6 := List.all_eq_true.1 hoi.1 t ht
      unfold readOk at h6
      simp only [hj, Bool.and_eq_true] at h6
      exact h3 j (hback' j h6.2)
    have hdd := h2 H'
    unfold dutyA at hdd ⊢
    have he : ∀ ts, (∀ t ∈ ts, t ∈ opTmps o) → envOf σ acc' s ts = envOf σ full s ts := by
      intro ts
      induction ts with
      | nil => intro _; rfl
      | cons t ts ih =>
        intro hts
        simp only [envOf]
        cases hsrc : srcOf s t with
        | none => simp only [ih (fun u hu => hts u (List.mem_cons_of_mem _ hu))]
        | some j => simp only [henv t (hts t List.mem_cons_self) j hsrc, ih (fun u hu => hts u (List.mem_cons_of_mem _ hu))]
    rw [← he _ (fun t ht => ht)]
    cases hg : o.guard with
    | none => rw [hg] at hdd; exact hdd
    | some p =>
      obtain ⟨g, want⟩ := p
      rw [hg] at hdd
      have h6 := hoi.2
      rw [hg] at h6
      simp only [Bool.and_eq_true] at h6
      simp only at hdd ⊢
      rw [← h3 g (hback' g h6.1.2)]; exact hdd
  have hs' : St C I L { w with drawn := w.drawn + 1 } := ⟨⟨hst.mem.im, hst.mem.loc, hst.mem.sep, hst.mem.nodup⟩, ⟨hst.chg.os, hst.chg.tape, hst.chg.output, hst.chg.size, hst.chg.block⟩, hst.own, hst.im0, hst.new⟩
  refine wp_region_any hm ?_
  have inv0 : CInv P C N n l ci (clOf l ss ci) σ HT full (fun cacc H' => wpB P C N l.toArray Q (l.drop n) (finA (cacc ++ full) (l.take n) 0 σ) H') ρ I (Array.replicate l.toArray.size false) 0 [] H I L (fun _ => undef) a { w with drawn := w.drawn + 1 } := by
    have hnl : ∀ j, (Array.replicate l.toArray.size false).getD j false = true → False := fun j hl => by rw [getD_replicate_false] at hl; cases hl
    refine ⟨⟨by simp, fun j oj _ hl => (hnl j hl).elim, fun t _ ht => getD_in (by simpa using ht) (getD_replicate_false _ _)⟩, Le.refl _, hs.im0, hs', hs.heap, Nat.zero_le _, fun m i hm => ⟨fun hl => (hnl i hl).elim, fun h => by omega⟩, by rw [List.drop_zero]; exact hF, fun j r hj => by simp [lookR] at hj, fun j r r0 hj => by simp [lookR] at hj, fun j _ hl => (hnl j hl).elim, fun j _ hl => (hnl j hl).elim, ha.defers, ha.size, fun j d _ hl => (hnl j hl).elim, fun t v hv _ => ha.tmp t v hv⟩
  have hunl : unl (Array.replicate l.toArray.size false) n = n := by
    have key : ∀ k, k ≤ l.toArray.size → unl (Array.replicate l.toArray.size false) k = k := by
      intro k
      induction k with
      | zero => intro _; rfl
      | succ k ih =>
        intro hk
        rw [unl, ih (by omega), if_pos (getD_in (by simp at hk ⊢; omega) (getD_replicate_false _ _))]
    exact key n (by simpa using hle')
  have hmain := wpAny_C (Q' := liftQ C N (qA C Q)) hs hN hback hok' hdst hC hcl hnd hp hle'
    (by rcases htail with h | h
        · exact .inl (by simpa using h)
        · exact .inr h) (by simpa using hseq)
    (fun listed k cacc H' J L' vs a' w' inv hall => by
      have hk : k = ci.length := by
        rcases Nat.lt_or_ge k ci.length with h | h
        · have := (inv.ch k _ (List.getElem?_eq_getElem h)).1 (hall _ (hcin _ (List.getElem_mem h)))
          omega
        · have := inv.kle; omega
      have hpl := inv.pl
      have hlen : (clOf l ss ci).length ≤ ci.length := by
        have : ∀ c : List Nat, (clOf l ss c).length ≤ c.length := by
          intro c
          induction c with
          | nil => exact Nat.le_refl _
          | cons i c ih =>
            simp only [clOf]
            split
            · simpa using ih
            · exact Nat.le_succ_of_le ih
        exact this ci
      rw [hk, List.drop_eq_nil_of_le hlen, planK] at hpl
      replace hpl := hpl.2
      have hNd : dstOk N (l.drop n) = true := by
        simp only [dstOk, List.all_eq_true] at hN ⊢
        exact fun o ho => hN o (List.mem_of_mem_drop ho)
      have hR : RSt C J L' σ H' ρ := ⟨fun t b hb => by obtain ⟨u, h1, h2⟩ := hs.env t b hb; exact ⟨u, h1, h2.mono inv.le⟩, inv.heap, inv.im0⟩
      have hget : ∀ i o, (l.take n)[i]? = some o → i < n ∧ l[i]? = some o := fun i o ho => by
        have h1 := (List.getElem?_eq_some_iff.1 ho).1
        have hin : i < n := by rw [List.length_take] at h1; omega
        rw [List.getElem?_take, if_pos hin] at ho
        exact ⟨hin, ho⟩
      refine hpl (finV vs (l.take n) 0 ρ) J L' (finV_st (l.take n) 0 σ ρ hR fun i o ho => ?_) hNd a' w' (finV_fits inv.defers inv.size (l.take n) 0 ρ (fun i o d ho hdd => ?_) fun t v hv hno => inv.tmpO t v hv fun j hj _ hdj => ?_) inv.st
      · obtain ⟨hin, _⟩ := hget i o ho
        rw [Nat.zero_add]
        exact inv.val i hin (hall i hin)
      · obtain ⟨hin, ho2⟩ := hget i o ho
        rw [Nat.zero_add]
        exact inv.tmpI i d hin (hall i hin) (by simp [ho2, hdd])
      · have hjl : j < l.length := by omega
        have : (l.take n)[j]? = some l[j] := by rw [List.getElem?_take, if_pos hj]; exact List.getElem?_eq_getElem hjl
        refine hno j l[j] this ?_
        simpa [hjl] using hdj)
    n _ _ _ _ _ _ _ _ _ inv0 hunl
  rw [show n + (l.length - n) = l.toArray.size by simp; omega] at hmain
  exact hmain
/-- What lies at the heap's end. -/
theorem Hole.app {Hp : AHeap} {H : AHeap} {B : Bool × Blk} {F : Bool × Blk → AHeap} (h : Hole H B F) : Hole (Hp ++ H) B (fun X => Hp ++ F X) := by
  induction Hp with
  | nil => exact h
  | cons A Hp ih => exact .s ih
/-- A heap, with other chunks at the marked places. -/
def famT : List Bool → AHeap → (Nat → Bool × Blk) → Nat → AHeap
  | b :: bs, B :: H, q, k => (bif b then q k else B) :: famT bs H q (k + 1)
  | _, H, _, _ => H
theorem wpA.drawCF {P : Program} {C : Ctx} {N : Nat} {Q : Exit → AEnv → AHeap → Prop} {σ : AEnv} {H : AHeap} {id : Nat} {l : List Oper} (bs : List Bool) (hm : P.follows .mixedOrders = true) (n : Nat) (ss : List (List (Nat × Nat))) (ci : List Nat)
    (hN : dstOk N l = true) (hB : phiOkC l.toArray n ss = true) (hss : Nat.ble n ss.length = true) (hC : chainOk l.toArray n ss ci = true) (hnd : ci.Nodup)
    (h : chainP P N C σ (fun q : AHeap × (Nat → Bool × Blk) => q.1 ++ famT bs H q.2 0) ci (fun accP => planK P C N σ (fun q : AHeap × (Nat → Bool × Blk) => q.1 ++ famT bs H q.2 0) accP (fun cacc H' => wpB P C N l.toArray Q (l.drop n) (finA (cacc ++ accP) (l.take n) 0 σ) H') (clOf l ss ci) [] H) (l.take n) ss 0 []) :
    wpA P C N (.region id l.toArray true) Q σ H := .drawCK _ hm n ss ci hN hB hss hC hnd h
/-- Duties under every heap. -/
def chainP0 (P : Program) (N : Nat) (C : Ctx) (σ0 : AEnv) (ci : List Nat) (F : List (Nat × AV) → Prop) : List Oper → List (List (Nat × Nat)) → Nat → List (Nat × AV) → Prop
  | [], _, _, acc => F acc
  | o :: os, s :: ss, k, acc => bif ci.contains k then chainP0 P N C σ0 ci F os ss (k + 1) acc ∨ ∃ r, chainP0 P N C σ0 ci F os ss (k + 1) ((k, r) :: acc) else ∃ r, (∀ H, dutyA P N C σ0 H acc o s r) ∧ chainP0 P N C σ0 ci F os ss (k + 1) ((k, r) :: acc)
  | _ :: _, [], _, _ => False
theorem chainP0.toK {P : Program} {N : Nat} {C : Ctx} {σ0 : AEnv} {ci : List Nat} {F F' : List (Nat × AV) → Prop} (hF : ∀ acc, F acc → F' acc) : ∀ {os : List Oper} {ss : List (List (Nat × Nat))} {k : Nat} {acc : List (Nat × AV)}, chainP0 P N C σ0 ci F os ss k acc → chainP P N C σ0 (fun H => H) ci F' os ss k acc
  | [], _, _, _, h => hF _ h
  | o :: os, s :: ss, k, acc, h => by
    simp only [chainP0] at h
    simp only [chainP]
    cases hb : ci.contains k with
    | true =>
      simp only [hb, cond_true] at h ⊢
      rcases h with h | ⟨r, h⟩
      · exact .inl (h.toK hF)
      · exact .inr ⟨r, h.toK hF⟩
    | false =>
      simp only [hb, cond_false] at h ⊢
      obtain ⟨r, h1, h2⟩ := h
      exact ⟨r, fun Hp => h1 _, h2.toK hF⟩
theorem wpA.drawC {P : Program} {C : Ctx} {N : Nat} {Q : Exit → AEnv → AHeap → Prop} {σ : AEnv} {H : AHeap} {id : Nat} {l : List Oper} (hm : P.follows .mixedOrders = true) (n : Nat) (ss : List (List (Nat × Nat))) (ci : List Nat)
    (hN : dstOk N l = true) (hB : phiOkC l.toArray n ss = true) (hss : Nat.ble n ss.length = true) (hC : chainOk l.toArray n ss ci = true) (hnd : ci.Nodup)
    (h : chainP0 P N C σ ci (fun accP => plan P C N σ accP (fun cacc H' => wpB P C N l.toArray Q (l.drop n) (finA (cacc ++ accP) (l.take n) 0 σ) H') (clOf l ss ci) [] H) (l.take n) ss 0 []) :
    wpA P C N (.region id l.toArray true) Q σ H := (wpA.drawCK (fun H => H) hm n ss ci hN hB hss hC hnd (h.toK fun _ h => h.toK))
end Go.Ab
/- New memory that is frozen at once; freezing ahead of an operation of a chain. -/
set_option linter.unusedVariables false
namespace Go.Ab
open Go.Fl Go.RowKit
open Rep (rep)
variable {P : Program} {C : Ctx} {N : Nat} {σ : AEnv} {H : AHeap} {K : AV → Prop} {KH : AV → AHeap → Prop} {d : Option Nat} {ty : TypeId} {ps : String} {af : Array Edge} {g : Option (Nat × Bool)}
variable {x y z : Operand} {T T2 E S D U : TypeId} {o : Oper}
theorem OpH.ofP (h : OpP P N C o σ H (fun r => KH r H)) : OpH P C N o σ H KH := fun ρ I L hs =>
  OpS.ofX (OpX.monoLe (h ρ I L hs) fun v J X hle ⟨hX, r, h1, h2⟩ => by subst hX; exact ⟨hle, r, H, h1, hs.heap.mono hle, h2⟩)
theorem OpH.frzOwn (hC : Ctx.Ok C) {E : TypeId} {α : Type} {r : Rep α} {w : Value} {l : List α} {F : Bool × Blk → AHeap} (h : Hole H (true, .own E w l) F) (k : OpH P C N o σ (F (true, .fz w (.v l))) KH) : OpH P C N o σ H KH := fun ρ I L hs a w0 ha hst => by
  obtain ⟨i, X, h1, h2, h3⟩ := h.get hs.heap
  have hst2 := hst.freeze h1 (frz_ok hC h2)
  have hle : Le I (I.with X) := Im.with_le (fun p hp => hst.mem.sep p (mem_chunk h1 hp))
  have hp : ∀ p ∈ X, I.with X p.1 = some p.2 := fun p hp => Im.with_mem (nodup_chunk hst.mem.nodup h1) hp
  refine Yld.mono (k ρ _ _ ⟨(hs.mono hle).env, h3 _ _ [] hle ⟨⟨rfl, freeze_own h2.1 hle hp⟩, by simp⟩, hs.im0.trans hle⟩ a w0 ha hst2) ?_
  rintro v w' ⟨J, L', q1, q2, q3⟩
  exact ⟨J, L', q1, hle.trans q2, q3⟩
theorem OpH.as (t : Nat) {w : Value} {a : AV} {b : Bool} {F : Bool × Blk → AHeap} (ht : lookA σ t = some (.raw w)) (h : Hole H (b, .fz w a) F) (k : OpH P C N o ((t, a) :: σ) H KH) : OpH P C N o σ H KH :=
  fun ρ I L hs => k ρ I L (hs.as t ht h)
theorem OpP.buildSliceF {α : Type} {r : Rep α} {i0 : Inhabited α} {n : Nat} {l : List α} {parts : Array (Nat × Operand)} (tE : TyIs P E α) (hT : P.underlying T = some (.slice E)) (hp : Elems C σ H 0 parts.toList l) (hn : l.length = n) (hb : n * Rep.size α ≤ 16777216) (k : K (.vc l)) :
    OpP P N C ⟨d, .buildSlice T n parts, ty, ps, af, g⟩ σ H K := fun ρ I L hs => by
  obtain ⟨zs, hz1, hz2⟩ := tE.zero
  obtain ⟨pv, vs, h1, h2, h3⟩ := hp.run hs
  subst hn
  have hl := h3.len
  refine OpX.frz (.buildSlice hT tE.size hz1 (Rep.len (hz2 I)) h1 h2 hl hb fun b J' hle hpp => ⟨rfl, .vc l, ⟨⟨_, rfl⟩, vs, ?_, h3.mono hle⟩, k⟩)
  refine (Own.made (e := E) hl ?_).sl (fun p hp => hpp p (by simpa using hp))
  have : 1 ≤ Rep.size α := Nat.one_le_iff_ne_zero.2 tE.pos
  have := Nat.mul_le_mul_left l.length this
  unfold maxLen; omega
theorem OpP.strBytesF {s : Str} (hS : P.underlying S = some .string) (hD : P.underlying D = some (.slice E)) (hE : P.underlying E = some (.int .u8)) (hx : EvA C σ H x (.v s)) (k : K (.v s.l)) :
    OpP P N C ⟨d, .convert S D x, ty, ps, af, g⟩ σ H K := fun ρ I L hs => by
  obtain ⟨b, h1, h2⟩ := hx.str hs
  have hb := hx.strLe hs
  refine OpX.frz (OpX.push fun a w ha hm => .inr ?_)
  have hsz : b.size = s.l.length := by rw [← h2]; rfl
  have hrun := run_bytes_of_string (P := P) w S D E b hS hD hE
  have hop : (execOp a.eval ⟨d, .convert S D x, ty, ps, af, g⟩).run P w = ((convert S D (.string b)).run P w).andThen fun v w' => .ok (.value v) w' := by
    simp [execOp, ha.ev h1]
  have hcap : grownCap w b.size 0 E ≥ b.size := grownCap_ge w b.size 0 E
  have hcapm : grownCap w b.size 0 E ≤ maxLen := grownCap_le_maxLen w b.size 0 E (by rw [hsz]; unfold maxLen; omega)
  refine ⟨.slice (some ⟨w.heap.size, 0, none⟩) b.size (grownCap w b.size 0 E), w.drew.alloc (.cells (bytesRow b (grownCap w b.size 0 E)) E ((bytesRow b (grownCap w b.size 0 E)).size, (bytesRow b (grownCap w b.size 0 E)).size + 1)),
    .cells (bytesRow b (grownCap w b.size 0 E)) E ((bytesRow b (grownCap w b.size 0 E)).size, (bytesRow b (grownCap w b.size 0 E)).size + 1), by rw [hop, hrun]; rfl, rfl, rfl, rfl, rfl, fun J' hle hp => ⟨rfl, .v s.l, ⟨_, ⟨_, rfl, bytesV s.l, ?_, repL_u8.2 rfl⟩, rfl⟩, k⟩⟩
  have hob := hp (w.heap.size, _) (List.mem_singleton.2 rfl)
  rw [← hsz]
  refine Sl.of_cells ⟨_, _, _, hob, fun i q hq => ?_⟩ (by simp [bytesV, hsz]; exact (Nat.mul_one _).symm) hcap hcapm
  have hi := (List.getElem?_eq_some_iff.1 hq).1
  rw [Nat.zero_add]
  have hR : bytesRow b (grownCap w b.size 0 E) = (bytesV s.l ++ List.replicate (grownCap w b.size 0 E - b.size) (Value.int .u8 0)).toArray := by
    apply Array.ext'
    rw [← h2]
    simp [bytesRow, bytesV, Fl.u8]
  rw [hR, List.getElem?_toArray, List.getElem?_append_left hi]; exact hq
theorem wpB.drop {ops : Array Oper} {Q : Exit → AEnv → AHeap → Prop} {os : List Oper} {B : Bool × Blk} (k : wpB P C N ops Q os σ H) : wpB P C N ops Q os σ (B :: H) := fun ρ I L hs => by
  obtain ⟨X, R, rfl, h1, h2⟩ := hs.heap
  exact wpL.forget (X := [X]) (k ρ I R ⟨hs.env, h2, hs.im0⟩)
theorem wpA.drop {Q : Exit → AEnv → AHeap → Prop} {c : Code} {B : Bool × Blk} (k : wpA P C N c Q σ H) : wpA P C N c Q σ (B :: H) := fun ρ I L hs => by
  obtain ⟨X, R, rfl, h1, h2⟩ := hs.heap
  exact wpS.forget (X := [X]) (k ρ I R ⟨hs.env, h2, hs.im0⟩)
theorem OpP.nilCheckL {α β : Type} {r : Rep α} {s : Rep β} {w : Value} {l : Lens α β} (hx : EvA C σ H x (.ln w l)) (k : K (.ln w l)) : OpP P N C ⟨d, .nilCheck x, ty, ps, af, g⟩ σ H K :=
  .vk k (fun ρ I L hs => by
    obtain ⟨u, h2, b, h3, rfl⟩ := hx ρ I L hs
    exact .mk ⟨b, h3, rfl⟩ fun a w ha hm => by simp [execOp, ha.ev h2])
theorem OpP.nilCheckP {β : Type} {s : Rep β} {a : β} (hx : EvA C σ H x (.p a)) (k : K (.p a)) : OpP P N C ⟨d, .nilCheck x, ty, ps, af, g⟩ σ H K :=
  .vk k (fun ρ I L hs => by
    obtain ⟨u, h2, b, o, cs, rfl, h3⟩ := hx ρ I L hs
    exact .mk ⟨b, o, cs, rfl, h3⟩ fun a w ha hm => by simp [execOp, ha.ev h2])
/-- A guarded operation whose guard is known to let it pass. -/
theorem wpB.gk {ops : Array Oper} {Q : Exit → AEnv → AHeap → Prop} {rest : List Oper} {d : Nat} {op : Op} {ty : TypeId} {ps : String} {af : Array Edge} {j : Nat} {want : Bool} (dj : Nat) (hj : (ops[j]?).bind (·.dst) = some dj) {b : Bool} (hb : EvA C σ H (.tmp dj) (.v b)) (e : b = want)
    (h : OpH P C N ⟨some d, op, ty, ps, af, none⟩ σ H (fun r H' => wpB P C N ops Q rest ((d, r) :: σ) H')) : wpB P C N ops Q (⟨some d, op, ty, ps, af, some (j, want)⟩ :: rest) σ H := fun ρ I L hs => by
  refine .gt dj hj (by rw [← e]; exact hb.bool hs) (OpS.mono' (h ρ I L hs) fun v J L' ⟨hle, r, H', hr, hH, hk⟩ => hk _ _ _ (hs.put hle hr hH))
section slStr
variable {s : Str} {i j : Int} (hT : P.underlying T = some .string) (hx : EvA C σ H x (.v s))
include hT hx
theorem OpP.slStrLo (hy : EvA C σ H y (.v i)) (h0 : 0 ≤ i) (h1 : i ≤ s.l.length) (k : K (.v (Str.mk (s.l.drop i.toNat)))) : OpP P N C ⟨d, .slice T x (some y) none none, ty, ps, af, g⟩ σ H K :=
  .slStr i.toNat s.l.length hT hx (.inr ⟨y, rfl, by rw [Int.toNat_of_nonneg h0]; exact hy⟩) (.inl ⟨rfl, rfl⟩) (by omega) (Nat.le_refl _) (by rw [List.take_length]; exact k)
theorem OpP.slStrHi (hz : EvA C σ H z (.v j)) (h0 : 0 ≤ j) (h1 : j ≤ s.l.length) (k : K (.v (Str.mk (s.l.take j.toNat)))) : OpP P N C ⟨d, .slice T x none (some z) none, ty, ps, af, g⟩ σ H K :=
  .slStr 0 j.toNat hT hx (.inl ⟨rfl, rfl⟩) (.inr ⟨z, rfl, by rw [Int.toNat_of_nonneg h0]; exact hz⟩) (by omega) (by omega) (by rw [List.drop_zero]; exact k)
theorem OpP.slStrLH (hy : EvA C σ H y (.v i)) (hz : EvA C σ H z (.v j)) (h0 : 0 ≤ i) (h1 : i ≤ j) (h2 : j ≤ s.l.length) (k : K (.v (Str.mk ((s.l.take j.toNat).drop i.toNat)))) : OpP P N C ⟨d, .slice T x (some y) (some z) none, ty, ps, af, g⟩ σ H K :=
  .slStr i.toNat j.toNat hT hx (.inr ⟨y, rfl, by rw [Int.toNat_of_nonneg h0]; exact hy⟩) (.inr ⟨z, rfl, by rw [Int.toNat_of_nonneg (by omega)]; exact hz⟩) (by omega) (by omega) k
end slStr
/-- What a string holds is no longer than a machine allows. -/
theorem strLe {s : Str} {n : Nat} (h : s.l.length ≤ n) : s.l.length ≤ n := h
end Go.Ab
/- Structure literals by the number of their given parts; fields of whole objects. By program (mkK.py). -/
set_option linter.unusedVariables false
namespace Go.Ab
open Go.Fl Go.RowKit
open Rep (rep)
variable {P : Program} {C : Ctx} {N : Nat} {σ : AEnv} {H : AHeap} {K : AV → Prop} {KH : AV → AHeap → Prop} {d : Option Nat} {ty : TypeId} {ps : String} {af : Array Edge} {g : Option (Nat × Bool)}
variable {x y z : Operand} {T T2 E S D U : TypeId} {o : Oper}
theorem OpP.bS1 {α γ1 : Type} {r : Rep α} {i0 : Inhabited α} {q1 : Rep γ1} {offs : List (Nat × Nat)} {parts : Array (Nat × Operand)} {i1 : Nat} {o1 : Operand} {c1 : γ1} (m1 : Lens α γ1) (hg : Rep.agg α = true) (tT : TyIs P T α) (hT : fieldOffs P T = some offs) (mk : γ1 → α) (hm : ∀ c1, (m1.set c1 (default : α)) = mk c1) (hp : parts.toList = [(i1, o1)]) (h1 : offs[i1]? = some (m1.off, Rep.size γ1)) (e1 : EvA C σ H o1 (.v c1)) (k : K (.v (mk c1))) :
    OpP P N C ⟨d, .build T parts, ty, ps, af, g⟩ σ H K :=
  .buildS (mk c1) hg tT hT (by rw [hp]; exact (.cons m1 c1 h1 e1 .nil)) (hm c1) k
theorem OpP.bS2 {α γ1 γ2 : Type} {r : Rep α} {i0 : Inhabited α} {q1 : Rep γ1} {q2 : Rep γ2} {offs : List (Nat × Nat)} {parts : Array (Nat × Operand)} {i1 : Nat} {o1 : Operand} {i2 : Nat} {o2 : Operand} {c1 : γ1} {c2 : γ2} (m1 : Lens α γ1) (m2 : Lens α γ2) (hg : Rep.agg α = true) (tT : TyIs P T α) (hT : fieldOffs P T = some offs) (mk : γ1 → γ2 → α) (hm : ∀ c1 c2, (m2.set c2 (m1.set c1 (default : α))) = mk c1 c2) (hp : parts.toList = [(i1, o1), (i2, o2)]) (h1 : offs[i1]? = some (m1.off, Rep.size γ1)) (h2 : offs[i2]? = some (m2.off, Rep.size γ2)) (e1 : EvA C σ H o1 (.v c1)) (e2 : EvA C σ H o2 (.v c2)) (k : K (.v (mk c1 c2))) :
    OpP P N C ⟨d, .build T parts, ty, ps, af, g⟩ σ H K :=
  .buildS (mk c1 c2) hg tT hT (by rw [hp]; exact (.cons m1 c1 h1 e1 (.cons m2 c2 h2 e2 .nil))) (hm c1 c2) k
theorem OpP.bS3 {α γ1 γ2 γ3 : Type} {r : Rep α} {i0 : Inhabited α} {q1 : Rep γ1} {q2 : Rep γ2} {q3 : Rep γ3} {offs : List (Nat × Nat)} {parts : Array (Nat × Operand)} {i1 : Nat} {o1 : Operand} {i2 : Nat} {o2 : Operand} {i3 : Nat} {o3 : Operand} {c1 : γ1} {c2 : γ2} {c3 : γ3} (m1 : Lens α γ1) (m2 : Lens α γ2) (m3 : Lens α γ3) (hg : Rep.agg α = true) (tT : TyIs P T α) (hT : fieldOffs P T = some offs) (mk : γ1 → γ2 → γ3 → α) (hm : ∀ c1 c2 c3, (m3.set c3 (m2.set c2 (m1.set c1 (default : α)))) = mk c1 c2 c3) (hp : parts.toList = [(i1, o1), (i2, o2), (i3, o3)]) (h1 : offs[i1]? = some (m1.off, Rep.size γ1)) (h2 : offs[i2]? = some (m2.off, Rep.size γ2)) (h3 : offs[i3]? = some (m3.off, Rep.size γ3)) (e1 : EvA C σ H o1 (.v c1)) (e2 : EvA C σ H o2 (.v c2)) (e3 : EvA C σ H o3 (.v c3)) (k : K (.v (mk c1 c2 c3))) :
    OpP P N C ⟨d, .build T parts, ty, ps, af, g⟩ σ H K :=
  .buildS (mk c1 c2 c3) hg tT hT (by rw [hp]; exact (.cons m1 c1 h1 e1 (.cons m2 c2 h2 e2 (.cons m3 c3 h3 e3 .nil)))) (hm c1 c2 c3) k
theorem OpP.bS4 {α γ1 γ2 γ3 γ4 : Type} {r : Rep α} {i0 : Inhabited α} {q1 : Rep γ1} {q2 : Rep γ2} {q3 : Rep γ3} {q4 : Rep γ4} {offs : List (Nat × Nat)} {parts : Array (Nat × Operand)} {i1 : Nat} {o1 : Operand} {i2 : Nat} {o2 : Operand} {i3 : Nat} {o3 : Operand} {i4 : Nat} {o4 : Operand} {c1 : γ1} {c2 : γ2} {c3 : γ3} {c4 : γ4} (m1 : Lens α γ1) (m2 : Lens α γ2) (m3 : Lens α γ3) (m4 : Lens α γ4) (hg : Rep.agg α = true) (tT : TyIs P T α) (hT : fieldOffs P T = some offs) (mk : γ1 → γ2 → γ3 → γ4 → α) (hm : ∀ c1 c2 c3 c4, (m4.set c4 (m3.set c3 (m2.set c2 (m1.set c1 (default : α))))) = mk c1 c2 c3 c4) (hp : parts.toList = [(i1, o1), (i2, o2), (i3, o3), (i4, o4)]) (h1 : offs[i1]? = some (m1.off, Rep.size γ1)) (h2 : offs[i2]? = some (m2.off, Rep.size γ2)) (h3 : offs[i3]? = some (m3.off, Rep.size γ3)) (h4 : offs[i4]? = some (m4.off, Rep.size γ4)) (e1 : EvA C σ H o1 (.v c1)) (e2 : EvA C σ H o2 (.v c2)) (e3 : EvA C σ H o3 (.v c3)) (e4 : EvA C σ H o4 (.v c4)) (k : K (.v (mk c1 c2 c3 c4))) :
    OpP P N C ⟨d, .build T parts, ty, ps, af, g⟩ σ H K :=
  .buildS (mk c1 c2 c3 c4) hg tT hT (by rw [hp]; exact (.cons m1 c1 h1 e1 (.cons m2 c2 h2 e2 (.cons m3 c3 h3 e3 (.cons m4 c4 h4 e4 .nil))))) (hm c1 c2 c3 c4) k
theorem OpP.bS5 {α γ1 γ2 γ3 γ4 γ5 : Type} {r : Rep α} {i0 : Inhabited α} {q1 : Rep γ1} {q2 : Rep γ2} {q3 : Rep γ3} {q4 : Rep γ4} {q5 : Rep γ5} {offs : List (Nat × Nat)} {parts : Array (Nat × Operand)} {i1 : Nat} {o1 : Operand} {i2 : Nat} {o2 : Operand} {i3 : Nat} {o3 : Operand} {i4 : Nat} {o4 : Operand} {i5 : Nat} {o5 : Operand} {c1 : γ1} {c2 : γ2} {c3 : γ3} {c4 : γ4} {c5 : γ5} (m1 : Lens α γ1) (m2 : Lens α γ2) (m3 : Lens α γ3) (m4 : Lens α γ4) (m5 : Lens α γ5) (hg : Rep.agg α = true) (tT : TyIs P T α) (hT : fieldOffs P T = some offs) (mk : γ1 → γ2 → γ3 → γ4 → γ5 → α) (hm : ∀ c1 c2 c3 c4 c5, (m5.set c5 (m4.set c4 (m3.set c3 (m2.set c2 (m1.set c1 (default : α)))))) = mk c1 c2 c3 c4 c5) (hp : parts.toList = [(i1, o1), (i2, o2), (i3, o3), (i4, o4), (i5, o5)]) (h1 : offs[i1]? = some (m1.off, Rep.size γ1)) (h2 : offs[i2]? = some (m2.off, Rep.size γ2)) (h3 : offs[i3]? = some (m3.off, Rep.size γ3)) (h4 : offs[i4]? = some (m4.off, Rep.size γ4)) (h5 : offs[i5]? = some (m5.off, Rep.size γ5)) (e1 : EvA C σ H o1 (.v c1)) (e2 : EvA C σ H o2 (.v c2)) (e3 : EvA C σ H o3 (.v c3)) (e4 : EvA C σ H o4 (.v c4)) (e5 : EvA C σ H o5 (.v c5)) (k : K (.v (mk c1 c2 c3 c4 c5))) :
    OpP P N C ⟨d, .build T parts, ty, ps, af, g⟩ σ H K :=
  .buildS (mk c1 c2 c3 c4 c5) hg tT hT (by rw [hp]; exact (.cons m1 c1 h1 e1 (.cons m2 c2 h2 e2 (.cons m3 c3 h3 e3 (.cons m4 c4 h4 e4 (.cons m5 c5 h5 e5 .nil)))))) (hm c1 c2 c3 c4 c5) k
theorem OpP.bS6 {α γ1 γ2 γ3 γ4 γ5 γ6 : Type} {r : Rep α} {i0 : Inhabited α} {q1 : Rep γ1} {q2 : Rep γ2} {q3 : Rep γ3} {q4 : Rep γ4} {q5 : Rep γ5} {q6 : Rep γ6} {offs : List (Nat × Nat)} {parts : Array (Nat × Operand)} {i1 : Nat} {o1 : Operand} {i2 : Nat} {o2 : Operand} {i3 : Nat} {o3 : Operand} {i4 : Nat} {o4 : Operand} {i5 : Nat} {o5 : Operand} {i6 : Nat} {o6 : Operand} {c1 : γ1} {c2 : γ2} {c3 : γ3} {c4 : γ4} {c5 : γ5} {c6 : γ6} (m1 : Lens α γ1) (m2 : Lens α γ2) (m3 : Lens α γ3) (m4 : Lens α γ4) (m5 : Lens α γ5) (m6 : Lens α γ6) (hg : Rep.agg α = true) (tT : TyIs P T α) (hT : fieldOffs P T = some offs) (mk : γ1 → γ2 → γ3 → γ4 → γ5 → γ6 → α) (hm : ∀ c1 c2 c3 c4 c5 c6, (m6.set c6 (m5.set c5 (m4.set c4 (m3.set c3 (m2.set c2 (m1.set c1 (default : α))))))) = mk c1 c2 c3 c4 c5 c6) (hp : parts.toList = [(i1, o1), (i2, o2), (i3, o3), (i4, o4), (i5, o5), (i6, o6)]) (h1 : offs[i1]? = some (m1.off, Rep.size γ1)) (h2 : offs[i2]? = some (m2.off, Rep.size γ2)) (h3 : offs[i3]? = some (m3.off, Rep.size γ3)) (h4 : offs[i4]? = some (m4.off, Rep.size γ4)) (h5 : offs[i5]? = some (m5.off, Rep.size γ5)) (h6 : offs[i6]? = some (m6.off, Rep.size γ6)) (e1 : EvA C σ H o1 (.v c1)) (e2 : EvA C σ H o2 (.v c2)) (e3 : EvA C σ H o3 (.v c3)) (e4 : EvA C σ H o4 (.v c4)) (e5 : EvA C σ H o5 (.v c5)) (e6 : EvA C σ H o6 (.v c6)) (k : K (.v (mk c1 c2 c3 c4 c5 c6))) :
    OpP P N C ⟨d, .build T parts, ty, ps, af, g⟩ σ H K :=
  .buildS (mk c1 c2 c3 c4 c5 c6) hg tT hT (by rw [hp]; exact (.cons m1 c1 h1 e1 (.cons m2 c2 h2 e2 (.cons m3 c3 h3 e3 (.cons m4 c4 h4 e4 (.cons m5 c5 h5 e5 (.cons m6 c6 h6 e6 .nil))))))) (hm c1 c2 c3 c4 c5 c6) k
theorem OpP.bS7 {α γ1 γ2 γ3 γ4 γ5 γ6 γ7 : Type} {r : Rep α} {i0 : Inhabited α} {q1 : Rep γ1} {q2 : Rep γ2} {q3 : Rep γ3} {q4 : Rep γ4} {q5 : Rep γ5} {q6 : Rep γ6} {q7 : Rep γ7} {offs : List (Nat × Nat)} {parts : Array (Nat × Operand)} {i1 : Nat} {o1 : Operand} {i2 : Nat} {o2 : Operand} {i3 : Nat} {o3 : Operand} {i4 : Nat} {o4 : Operand} {i5 : Nat} {o5 : Operand} {i6 : Nat} {o6 : Operand} {i7 : Nat} {o7 : Operand} {c1 : γ1} {c2 : γ2} {c3 : γ3} {c4 : γ4} {c5 : γ5} {c6 : γ6} {c7 : γ7} (m1 : Lens α γ1) (m2 : Lens α γ2) (m3 : Lens α γ3) (m4 : Lens α γ4) (m5 : Lens α γ5) (m6 : Lens α γ6) (m7 : Lens α γ7) (hg : Rep.agg α = true) (tT : TyIs P T α) (hT : fieldOffs P T = some offs) (mk : γ1 → γ2 → γ3 → γ4 → γ5 → γ6 → γ7 → α) (hm : ∀ c1 c2 c3 c4 c5 c6 c7, (m7.set c7 (m6.set c6 (m5.set c5 (m4.set c4 (m3.set c3 (m2.set c2 (m1.set c1 (default : α)))))))) = mk c1 c2 c3 c4 c5 c6 c7) (hp : parts.toList = [(i1, o1), (i2, o2), (i3, o3), (i4, o4), (i5, o5), (i6, o6), (i7, o7)]) (h1 : offs[i1]? = some (m1.off, Rep.size γ1)) (h2 : offs[i2]? = some (m2.off, Rep.size γ2)) (h3 : offs[i3]? = some (m3.off, Rep.size γ3)) (h4 : offs[i4]? = some (m4.off, Rep.size γ4)) (h5 : offs[i5]? = some (m5.off, Rep.size γ5)) (h6 : offs[i6]? = some (m6.off, Rep.size γ6)) (h7 : offs[i7]? = some (m7.off, Rep.size γ7)) (e1 : EvA C σ H o1 (.v c1)) (e2 : EvA C σ H o2 (.v c2)) (e3 : EvA C σ H o3 (.v c3)) (e4 : EvA C σ H o4 (.v c4)) (e5 : EvA C σ H o5 (.v c5)) (e6 : EvA C σ H o6 (.v c6)) (e7 : EvA C σ H o7 (.v c7)) (k : K (.v (mk c1 c2 c3 c4 c5 c6 c7))) :
    OpP P N C ⟨d, .build T parts, ty, ps, af, g⟩ σ H K :=
  .buildS (mk c1 c2 c3 c4 c5 c6 c7) hg tT hT (by rw [hp]; exact (.cons m1 c1 h1 e1 (.cons m2 c2 h2 e2 (.cons m3 c3 h3 e3 (.cons m4 c4 h4 e4 (.cons m5 c5 h5 e5 (.cons m6 c6 h6 e6 (.cons m7 c7 h7 e7 .nil)))))))) (hm c1 c2 c3 c4 c5 c6 c7) k
theorem OpP.bS8 {α γ1 γ2 γ3 γ4 γ5 γ6 γ7 γ8 : Type} {r : Rep α} {i0 : Inhabited α} {q1 : Rep γ1} {q2 : Rep γ2} {q3 : Rep γ3} {q4 : Rep γ4} {q5 : Rep γ5} {q6 : Rep γ6} {q7 : Rep γ7} {q8 : Rep γ8} {offs : List (Nat × Nat)} {parts : Array (Nat × Operand)} {i1 : Nat} {o1 : Operand} {i2 : Nat} {o2 : Operand} {i3 : Nat} {o3 : Operand} {i4 : Nat} {o4 : Operand} {i5 : Nat} {o5 : Operand} {i6 : Nat} {o6 : Operand} {i7 : Nat} {o7 : Operand} {i8 : Nat} {o8 : Operand} {c1 : γ1} {c2 : γ2} {c3 : γ3} {c4 : γ4} {c5 : γ5} {c6 : γ6} {c7 : γ7} {c8 : γ8} (m1 : Lens α γ1) (m2 : Lens α γ2) (m3 : Lens α γ3) (m4 : Lens α γ4) (m5 : Lens α γ5) (m6 : Lens α γ6) (m7 : Lens α γ7) (m8 : Lens α γ8) (hg : Rep.agg α = true) (tT : TyIs P T α) (hT : fieldOffs P T = some offs) (mk : γ1 → γ2 → γ3 → γ4 → γ5 → γ6 → γ7 → γ8 → α) (hm : ∀ c1 c2 c3 c4 c5 c6 c7 c8, (m8.set c8 (m7.set c7 (m6.set c6 (m5.set c5 (m4.set c4 (m3.set c3 (m2.set c2 (m1.set c1 (default : α))))))))) = mk c1 c2 c3 c4 c5 c6 c7 c8) (hp : parts.toList = [(i1, o1), (i2, o2), (i3, o3), (i4, o4), (i5, o5), (i6, o6), (i7, o7), (i8, o8)]) (h1 : offs[i1]? = some (m1.off, Rep.size γ1)) (h2 : offs[i2]? = some (m2.off, Rep.size γ2)) (h3 : offs[i3]? = some (m3.off, Rep.size γ3)) (h4 : offs[i4]? = some (m4.off, Rep.size γ4)) (h5 : offs[i5]? = some (m5.off, Rep.size γ5)) (h6 : offs[i6]? = some (m6.off, Rep.size γ6)) (h7 : offs[i7]? = some (m7.off, Rep.size γ7)) (h8 : offs[i8]? = some (m8.off, Rep.size γ8)) (e1 : EvA C σ H o1 (.v c1)) (e2 : EvA C σ H o2 (.v c2)) (e3 : EvA C σ H o3 (.v c3)) (e4 : EvA C σ H o4 (.v c4)) (e5 : EvA C σ H o5 (.v c5)) (e6 : EvA C σ H o6 (.v c6)) (e7 : EvA C σ H o7 (.v c7)) (e8 : EvA C σ H o8 (.v c8)) (k : K (.v (mk c1 c2 c3 c4 c5 c6 c7 c8))) :
    OpP P N C ⟨d, .build T parts, ty, ps, af, g⟩ σ H K :=
  .buildS (mk c1 c2 c3 c4 c5 c6 c7 c8) hg tT hT (by rw [hp]; exact (.cons m1 c1 h1 e1 (.cons m2 c2 h2 e2 (.cons m3 c3 h3 e3 (.cons m4 c4 h4 e4 (.cons m5 c5 h5 e5 (.cons m6 c6 h6 e6 (.cons m7 c7 h7 e7 (.cons m8 c8 h8 e8 .nil))))))))) (hm c1 c2 c3 c4 c5 c6 c7 c8) k
theorem OpP.bS9 {α γ1 γ2 γ3 γ4 γ5 γ6 γ7 γ8 γ9 : Type} {r : Rep α} {i0 : Inhabited α} {q1 : Rep γ1} {q2 : Rep γ2} {q3 : Rep γ3} {q4 : Rep γ4} {q5 : Rep γ5} {q6 : Rep γ6} {q7 : Rep γ7} {q8 : Rep γ8} {q9 : Rep γ9} {offs : List (Nat × Nat)} {parts : Array (Nat × Operand)} {i1 : Nat} {o1 : Operand} {i2 : Nat} {o2 : Operand} {i3 : Nat} {o3 : Operand} {i4 : Nat} {o4 : Operand} {i5 : Nat} {o5 : Operand} {i6 : Nat} {o6 : Operand} {i7 : Nat} {o7 : Operand} {i8 : Nat} {o8 : Operand} {i9 : Nat} {o9 : Operand} {c1 : γ1} {c2 : γ2} {c3 : γ3} {c4 : γ4} {c5 : γ5} {c6 : γ6} {c7 : γ7} {c8 : γ8} {c9 : γ9} (m1 : Lens α γ1) (m2 : Lens α γ2) (m3 : Lens α γ3) (m4 : Lens α γ4) (m5 : Lens α γ5) (m6 : Lens α γ6) (m7 : Lens α γ7) (m8 : Lens α γ8) (m9 : Lens α γ9) (hg : Rep.agg α = true) (tT : TyIs P T α) (hT : fieldOffs P T = some offs) (mk : γ1 → γ2 → γ3 → γ4 → γ5 → γ6 → γ7 → γ8 → γ9 → α) (hm : ∀ c1 c2 c3 c4 c5 c6 c7 c8 c9, (m9.set c9 (m8.set c8 (m7.set c7 (m6.set c6 (m5.set c5 (m4.set c4 (m3.set c3 (m2.set c2 (m1.set c1 (default : α)))))))))) = mk c1 c2 c3 c4 c5 c6 c7 c8 c9) (hp : parts.toList = [(i1, o1), (i2, o2), (i3, o3), (i4, o4), (i5, o5), (i6, o6), (i7, o7), (i8, o8), (i9, o9)]) (h1 : offs[i1]? = some (m1.off, Rep.size γ1)) (h2 : offs[i2]? = some (m2.off, Rep.size γ2)) (h3 : offs[i3]? = some (m3.off, Rep.size γ3)) (h4 : offs[i4]? = some (m4.off, Rep.size γ4)) (h5 : offs[i5]? = some (m5.off, Rep.size γ5)) (h6 : offs[i6]? = some (m6.off, Rep.size γ6)) (h7 : offs[i7]? = some (m7.off, Rep.size γ7)) (h8 : offs[i8]? = some (m8.off, Rep.size γ8)) (h9 : offs[i9]? = some (m9.off, Rep.size γ9)) (e1 : EvA C σ H o1 (.v c1)) (e2 : EvA C σ H o2 (.v c2)) (e3 : EvA C σ H o3 (.v c3)) (e4 : EvA C σ H o4 (.v c4)) (e5 : EvA C σ H o5 (.v c5)) (e6 : EvA C σ H o6 (.v c6)) (e7 : EvA C σ H o7 (.v c7)) (e8 : EvA C σ H o8 (.v c8)) (e9 : EvA C σ H o9 (.v c9)) (k : K (.v (mk c1 c2 c3 c4 c5 c6 c7 c8 c9))) :
    OpP P N C ⟨d, .build T parts, ty, ps, af, g⟩ σ H K :=
  .buildS (mk c1 c2 c3 c4 c5 c6 c7 c8 c9) hg tT hT (by rw [hp]; exact (.cons m1 c1 h1 e1 (.cons m2 c2 h2 e2 (.cons m3 c3 h3 e3 (.cons m4 c4 h4 e4 (.cons m5 c5 h5 e5 (.cons m6 c6 h6 e6 (.cons m7 c7 h7 e7 (.cons m8 c8 h8 e8 (.cons m9 c9 h9 e9 .nil)))))))))) (hm c1 c2 c3 c4 c5 c6 c7 c8 c9) k
theorem OpP.bS10 {α γ1 γ2 γ3 γ4 γ5 γ6 γ7 γ8 γ9 γ10 : Type} {r : Rep α} {i0 : Inhabited α} {q1 : Rep γ1} {q2 : Rep γ2} {q3 : Rep γ3} {q4 : Rep γ4} {q5 : Rep γ5} {q6 : Rep γ6} {q7 : Rep γ7} {q8 : Rep γ8} {q9 : Rep γ9} {q10 : Rep γ10} {offs : List (Nat × Nat)} {parts : Array (Nat × Operand)} {i1 : Nat} {o1 : Operand} {i2 : Nat} {o2 : Operand} {i3 : Nat} {o3 : Operand} {i4 : Nat} {o4 : Operand} {i5 : Nat} {o5 : Operand} {i6 : Nat} {o6 : Operand} {i7 : Nat} {o7 : Operand} {i8 : Nat} {o8 : Operand} {i9 : Nat} {o9 : Operand} {i10 : Nat} {o10 : Operand} {c1 : γ1} {c2 : γ2} {c3 : γ3} {c4 : γ4} {c5 : γ5} {c6 : γ6} {c7 : γ7} {c8 : γ8} {c9 : γ9} {c10 : γ10} (m1 : Lens α γ1) (m2 : Lens α γ2) (m3 : Lens α γ3) (m4 : Lens α γ4) (m5 : Lens α γ5) (m6 : Lens α γ6) (m7 : Lens α γ7) (m8 : Lens α γ8) (m9 : Lens α γ9) (m10 : Lens α γ10) (hg : Rep.agg α = true) (tT : TyIs P T α) (hT : fieldOffs P T = some offs) (mk : γ1 → γ2 → γ3 → γ4 → γ5 → γ6 → γ7 → γ8 → γ9 → γ10 → α) (hm : ∀ c1 c2 c3 c4 c5 c6 c7 c8 c9 c10, (m10.set c10 (m9.set c9 (m8.set c8 (m7.set c7 (m6.set c6 (m5.set c5 (m4.set c4 (m3.set c3 (m2.set c2 (m1.set c1 (default : α))))))))))) = mk c1 c2 c3 c4 c5 c6 c7 c8 c9 c10) (hp : parts.toList = [(i1, o1), (i2, o2), (i3, o3), (i4, o4), (i5, o5), (i6, o6), (i7, o7), (i8, o8), (i9, o9), (i10, o10)]) (h1 : offs[i1]? = some (m1.off, Rep.size γ1)) (h2 : offs[i2]? = some (m2.off, Rep.size γ2)) (h3 : offs[i3]? = some (m3.off, Rep.size γ3)) (h4 : offs[i4]? = some (m4.off, Rep.size γ4)) (h5 : offs[i5]? = some (m5.off, Rep.size γ5)) (h6 : offs[i6]? = some (m6.off, Rep.size γ6)) (h7 : offs[i7]? = some (m7.off, Rep.size γ7)) (h8 : offs[i8]? = some (m8.off, Rep.size γ8)) (h9 : offs[i9]? = some (m9.off, Rep.size γ9)) (h10 : offs[i10]? = some (m10.off, Rep.size γ10)) (e1 : EvA C σ H o1 (.v c1)) (e2 : EvA C σ H o2 (.v c2)) (e3 : EvA C σ H o3 (.v c3)) (e4 : EvA C σ H o4 (.v c4)) (e5 : EvA C σ H o5 (.v c5)) (e6 : EvA C σ H o6 (.v c6)) (e7 : EvA C σ H o7 (.v c7)) (e8 : EvA C σ H o8 (.v c8)) (e9 : EvA C σ H o9 (.v c9)) (e10 : EvA C σ H o10 (.v c10)) (k : K (.v (mk c1 c2 c3 c4 c5 c6 c7 c8 c9 c10))) :
    OpP P N C ⟨d, .build T parts, ty, ps, af, g⟩ σ H K :=
  .buildS (mk c1 c2 c3 c4 c5 c6 c7 c8 c9 c10) hg tT hT (by rw [hp]; exact (.cons m1 c1 h1 e1 (.cons m2 c2 h2 e2 (.cons m3 c3 h3 e3 (.cons m4 c4 h4 e4 (.cons m5 c5 h5 e5 (.cons m6 c6 h6 e6 (.cons m7 c7 h7 e7 (.cons m8 c8 h8 e8 (.cons m9 c9 h9 e9 (.cons m10 c10 h10 e10 .nil))))))))))) (hm c1 c2 c3 c4 c5 c6 c7 c8 c9 c10) k
theorem OpP.bS11 {α γ1 γ2 γ3 γ4 γ5 γ6 γ7 γ8 γ9 γ10 γ11 : Type} {r : Rep α} {i0 : Inhabited α} {q1 : Rep γ1} {q2 : Rep γ2} {q3 : Rep γ3} {q4 : Rep γ4} {q5 : Rep γ5} {q6 : Rep γ6} {q7 : Rep γ7} {q8 : Rep γ8} {q9 : Rep γ9} {q10 : Rep γ10} {q11 : Rep γ11} {offs : List (Nat × Nat)} {parts : Array (Nat × Operand)} {i1 : Nat} {o1 : Operand} {i2 : Nat} {o2 : Operand} {i3 : Nat} {o3 : Operand} {i4 : Nat} {o4 : Operand} {i5 : Nat} {o5 : Operand} {i6 : Nat} {o6 : Operand} {i7 : Nat} {o7 : Operand} {i8 : Nat} {o8 : Operand} {i9 : Nat} {o9 : Operand} {i10 : Nat} {o10 : Operand} {i11 : Nat} {o11 : Operand} {c1 : γ1} {c2 : γ2} {c3 : γ3} {c4 : γ4} {c5 : γ5} {c6 : γ6} {c7 : γ7} {c8 : γ8} {c9 : γ9} {c10 : γ10} {c11 : γ11} (m1 : Lens α γ1) (m2 : Lens α γ2) (m3 : Lens α γ3) (m4 : Lens α γ4) (m5 : Lens α γ5) (m6 : Lens α γ6) (m7 : Lens α γ7) (m8 : Lens α γ8) (m9 : Lens α γ9) (m10 : Lens α γ10) (m11 : Lens α γ11) (hg : Rep.agg α = true) (tT : TyIs P T α) (hT : fieldOffs P T = some offs) (mk : γ1 → γ2 → γ3 → γ4 → γ5 → γ6 → γ7 → γ8 → γ9 → γ10 → γ11 → α) (hm : ∀ c1 c2 c3 c4 c5 c6 c7 c8 c9 c10 c11, (m11.set c11 (m10.set c10 (m9.set c9 (m8.set c8 (m7.set c7 (m6.set c6 (m5.set c5 (m4.set c4 (m3.set c3 (m2.set c2 (m1.set c1 (default : α)))))))))))) = mk c1 c2 c3 c4 c5 c6 c7 c8 c9 c10 c11) (hp : parts.toList = [(i1, o1), (i2, o2), (i3, o3), (i4, o4), (i5, o5), (i6, o6), (i7, o7), (i8, o8), (i9, o9), (i10, o10), (i11, o11)]) (h1 : offs[i1]? = some (m1.off, Rep.size γ1)) (h2 : offs[i2]? = some (m2.off, Rep.size γ2)) (h3 : offs[i3]? = some (m3.off, Rep.size γ3)) (h4 : offs[i4]? = some (m4.off, Rep.size γ4)) (h5 : offs[i5]? = some (m5.off, Rep.size γ5)) (h6 : offs[i6]? = some (m6.off, Rep.size γ6)) (h7 : offs[i7]? = some (m7.off, Rep.size γ7)) (h8 : offs[i8]? = some (m8.off, Rep.size γ8)) (h9 : offs[i9]? = some (m9.off, Rep.size γ9)) (h10 : offs[i10]? = some (m10.off, Rep.size γ10)) (h11 : offs[i11]? = some (m11.off, Rep.size γ11)) (e1 : EvA C σ H o1 (.v c1)) (e2 : EvA C σ H o2 (.v c2)) (e3 : EvA C σ H o3 (.v c3)) (e4 : EvA C σ H o4 (.v c4)) (e5 : EvA C σ H o5 (.v c5)) (e6 : EvA C σ H o6 (.v c6)) (e7 : EvA C σ H o7 (.v c7)) (e8 : EvA C σ H o8 (.v c8)) (e9 : EvA C σ H o9 (.v c9)) (e10 : EvA C σ H o10 (.v c10)) (e11 : EvA C σ H o11 (.v c11)) (k : K (.v (mk c1 c2 c3 c4 c5 c6 c7 c8 c9 c10 c11))) :
    OpP P N C ⟨d, .build T parts, ty, ps, af, g⟩ σ H K :=
  .buildS (mk c1 c2 c3 c4 c5 c6 c7 c8 c9 c10 c11) hg tT hT (by rw [hp]; exact (.cons m1 c1 h1 e1 (.cons m2 c2 h2 e2 (.cons m3 c3 h3 e3 (.cons m4 c4 h4 e4 (.cons m5 c5 h5 e5 (.cons m6 c6 h6 e6 (.cons m7 c7 h7 e7 (.cons m8 c8 h8 e8 (.cons m9 c9 h9 e9 (.cons m10 c10 h10 e10 (.cons m11 c11 h11 e11 .nil)))))))))))) (hm c1 c2 c3 c4 c5 c6 c7 c8 c9 c10 c11) k
theorem OpP.bS12 {α γ1 γ2 γ3 γ4 γ5 γ6 γ7 γ8 γ9 γ10 γ11 γ12 : Type} {r : Rep α} {i0 : Inhabited α} {q1 : Rep γ1} {q2 : Rep γ2} {q3 : Rep γ3} {q4 : Rep γ4} {q5 : Rep γ5} {q6 : Rep γ6} {q7 : Rep γ7} {q8 : Rep γ8} {q9 : Rep γ9} {q10 : Rep γ10} {q11 : Rep γ11} {q12 : Rep γ12} {offs : List (Nat × Nat)} {parts : Array (Nat × Operand)} {i1 : Nat} {o1 : Operand} {i2 : Nat} {o2 : Operand} {i3 : Nat} {o3 : Operand} {i4 : Nat} {o4 : Operand} {i5 : Nat} {o5 : Operand} {i6 : Nat} {o6 : Operand} {i7 : Nat} {o7 : Operand} {i8 : Nat} {o8 : Operand} {i9 : Nat} {o9 : Operand} {i10 : Nat} {o10 : Operand} {i11 : Nat} {o11 : Operand} {i12 : Nat} {o12 : Operand} {c1 : γ1} {c2 : γ2} {c3 : γ3} {c4 : γ4} {c5 : γ5} {c6 : γ6} {c7 : γ7} {c8 : γ8} {c9 : γ9} {c10 : γ10} {c11 : γ11} {c12 : γ12} (m1 : Lens α γ1) (m2 : Lens α γ2) (m3 : Lens α γ3) (m4 : Lens α γ4) (m5 : Lens α γ5) (m6 : Lens α γ6) (m7 : Lens α γ7) (m8 : Lens α γ8) (m9 : Lens α γ9) (m10 : Lens α γ10) (m11 : Lens α γ11) (m12 : Lens α γ12) (hg : Rep.agg α = true) (tT : TyIs P T α) (hT : fieldOffs P T = some offs) (mk : γ1 → γ2 → γ3 → γ4 → γ5 → γ6 → γ7 → γ8 → γ9 → γ10 → γ11 → γ12 → α) (hm : ∀ c1 c2 c3 c4 c5 c6 c7 c8 c9 c10 c11 c12, (m12.set c12 (m11.set c11 (m10.set c10 (m9.set c9 (m8.set c8 (m7.set c7 (m6.set c6 (m5.set c5 (m4.set c4 (m3.set c3 (m2.set c2 (m1.set c1 (default : α))))))))))))) = mk c1 c2 c3 c4 c5 c6 c7 c8 c9 c10 c11 c12) (hp : parts.toList = [(i1, o1), (i2, o2), (i3, o3), (i4, o4), (i5, o5), (i6, o6), (i7, o7), (i8, o8), (i9, o9), (i10, o10), (i11, o11), (i12, o12)]) (h1 : offs[i1]? = some (m1.off, Rep.size γ1)) (h2 : offs[i2]? = some (m2.off, Rep.size γ2)) (h3 : offs[i3]? = some (m3.off, Rep.size γ3)) (h4 : offs[i4]? = some (m4.off, Rep.size γ4)) (h5 : offs[i5]? = some (m5.off, Rep.size γ5)) (h6 : offs[i6]? = some (m6.off, Rep.size γ6)) (h7 : offs[i7]? = some (m7.off, Rep.size γ7)) (h8 : offs[i8]? = some (m8.off, Rep.size γ8)) (h9 : offs[i9]? = some (m9.off, Rep.size γ9)) (h10 : offs[i10]? = some (m10.off, Rep.size γ10)) (h11 : offs[i11]? = some (m11.off, Rep.size γ11)) (h12 : offs[i12]? = some (m12.off, Rep.size γ12)) (e1 : EvA C σ H o1 (.v c1)) (e2 : EvA C σ H o2 (.v c2)) (e3 : EvA C σ H o3 (.v c3)) (e4 : EvA C σ H o4 (.v c4)) (e5 : EvA C σ H o5 (.v c5)) (e6 : EvA C σ H o6 (.v c6)) (e7 : EvA C σ H o7 (.v c7)) (e8 : EvA C σ H o8 (.v c8)) (e9 : EvA C σ H o9 (.v c9)) (e10 : EvA C σ H o10 (.v c10)) (e11 : EvA C σ H o11 (.v c11)) (e12 : EvA C σ H o12 (.v c12)) (k : K (.v (mk c1 c2 c3 c4 c5 c6 c7 c8 c9 c10 c11 c12))) :
    OpP P N C ⟨d, .build T parts, ty, ps, af, g⟩ σ H K :=
  .buildS (mk c1 c2 c3 c4 c5 c6 c7 c8 c9 c10 c11 c12) hg tT hT (by rw [hp]; exact (.cons m1 c1 h1 e1 (.cons m2 c2 h2 e2 (.cons m3 c3 h3 e3 (.cons m4 c4 h4 e4 (.cons m5 c5 h5 e5 (.cons m6 c6 h6 e6 (.cons m7 c7 h7 e7 (.cons m8 c8 h8 e8 (.cons m9 c9 h9 e9 (.cons m10 c10 h10 e10 (.cons m11 c11 h11 e11 (.cons m12 c12 h12 e12 .nil))))))))))))) (hm c1 c2 c3 c4 c5 c6 c7 c8 c9 c10 c11 c12) k
theorem OpP.bS13 {α γ1 γ2 γ3 γ4 γ5 γ6 γ7 γ8 γ9 γ10 γ11 γ12 γ13 : Type} {r : Rep α} {i0 : Inhabited α} {q1 : Rep γ1} {q2 : Rep γ2} {q3 : Rep γ3} {q4 : Rep γ4} {q5 : Rep γ5} {q6 : Rep γ6} {q7 : Rep γ7} {q8 : Rep γ8} {q9 : Rep γ9} {q10 : Rep γ10} {q11 : Rep γ11} {q12 : Rep γ12} {q13 : Rep γ13} {offs : List (Nat × Nat)} {parts : Array (Nat × Operand)} {i1 : Nat} {o1 : Operand} {i2 : Nat} {o2 : Operand} {i3 : Nat} {o3 : Operand} {i4 : Nat} {o4 : Operand} {i5 : Nat} {o5 : Operand} {i6 : Nat} {o6 : Operand} {i7 : Nat} {o7 : Operand} {i8 : Nat} {o8 : Operand} {i9 : Nat} {o9 : Operand} {i10 : Nat} {o10 : Operand} {i11 : Nat} {o11 : Operand} {i12 : Nat} {o12 : Operand} {i13 : Nat} {o13 : Operand} {c1 : γ1} {c2 : γ2} {c3 : γ3} {c4 : γ4} {c5 : γ5} {c6 : γ6} {c7 : γ7} {c8 : γ8} {c9 : γ9} {c10 : γ10} {c11 : γ11} {c12 : γ12} {c13 : γ13} (m1 : Lens α γ1) (m2 : Lens α γ2) (m3 : Lens α γ3) (m4 : Lens α γ4) (m5 : Lens α γ5) (m6 : Lens α γ6) (m7 : Lens α γ7) (m8 : Lens α γ8) (m9 : Lens α γ9) (m10 : Lens α γ10) (m11 : Lens α γ11) (m12 : Lens α γ12) (m13 : Lens α γ13) (hg : Rep.agg α = true) (tT : TyIs P T α) (hT : fieldOffs P T = some offs) (mk : γ1 → γ2 → γ3 → γ4 → γ5 → γ6 → γ7 → γ8 → γ9 → γ10 → γ11 → γ12 → γ13 → α) (hm : ∀ c1 c2 c3 c4 c5 c6 c7 c8 c9 c10 c11 c12 c13, (m13.set c13 (m12.set c12 (m11.set c11 (m10.set c10 (m9.set c9 (m8.set c8 (m7.set c7 (m6.set c6 (m5.set c5 (m4.set c4 (m3.set c3 (m2.set c2 (m1.set c1 (default : α)))))))))))))) = mk c1 c2 c3 c4 c5 c6 c7 c8 c9 c10 c11 c12 c13) (hp : parts.toList = [(i1, o1), (i2, o2), (i3, o3), (i4, o4), (i5, o5), (i6, o6), (i7, o7), (i8, o8), (i9, o9), (i10, o10), (i11, o11), (i12, o12), (i13, o13)]) (h1 : offs[i1]? = some (m1.off, Rep.size γ1)) (h2 : offs[i2]? = some (m2.off, Rep.size γ2)) (h3 : offs[i3]? = some (m3.off, Rep.size γ3)) (h4 : offs[i4]? = some (m4.off, Rep.size γ4)) (h5 : offs[i5]? = some (m5.off, Rep.size γ5)) (h6 : offs[i6]? = some (m6.off, Rep.size γ6)) (h7 : offs[i7]? = some (m7.off, Rep.size γ7)) (h8 : offs[i8]? = some (m8.off, Rep.size γ8)) (h9 : offs[i9]? = some (m9.off, Rep.size γ9)) (h10 : offs[i10]? = some (m10.off, Rep.size γ10)) (h11 : offs[i11]? = some (m11.off, Rep.size γ11)) (h12 : offs[i12]? = some (m12.off, Rep.size γ12)) (h13 : offs[i13]? = some (m13.off, Rep.size γ13)) (e1 : EvA C σ H o1 (.v c1)) (e2 : EvA C σ H o2 (.v c2)) (e3 : EvA C σ H o3 (.v c3)) (e4 : EvA C σ H o4 (.v c4)) (e5 : EvA C σ H o5 (.v c5)) (e6 : EvA C σ H o6 (.v c6)) (e7 : EvA C σ H o7 (.v c7)) (e8 : EvA C σ H o8 (.v c8)) (e9 : EvA C σ H o9 (.v c9)) (e10 : EvA C σ H o10 (.v c10)) (e11 : EvA C σ H o11 (.v c11)) (e12 : EvA C σ H o12 (.v c12)) (e13 : EvA C σ H o13 (.v c13)) (k : K (.v (mk c1 c2 c3 c4 c5 c6 c7 c8 c9 c10 c11 c12 c13))) :
    OpP P N C ⟨d, .build T parts, ty, ps, af, g⟩ σ H K :=
  .buildS (mk c1 c2 c3 c4 c5 c6 c7 c8 c9 c10 c11 c12 c13) hg tT hT (by rw [hp]; exact (.cons m1 c1 h1 e1 (.cons m2 c2 h2 e2 (.cons m3 c3 h3 e3 (.cons m4 c4 h4 e4 (.cons m5 c5 h5 e5 (.cons m6 c6 h6 e6 (.cons m7 c7 h7 e7 (.cons m8 c8 h8 e8 (.cons m9 c9 h9 e9 (.cons m10 c10 h10 e10 (.cons m11 c11 h11 e11 (.cons m12 c12 h12 e12 (.cons m13 c13 h13 e13 .nil)))))))))))))) (hm c1 c2 c3 c4 c5 c6 c7 c8 c9 c10 c11 c12 c13) k
theorem OpP.bS14 {α γ1 γ2 γ3 γ4 γ5 γ6 γ7 γ8 γ9 γ10 γ11 γ12 γ13 γ14 : Type} {r : Rep α} {i0 : Inhabited α} {q1 : Rep γ1} {q2 : Rep γ2} {q3 : Rep γ3} {q4 : Rep γ4} {q5 : Rep γ5} {q6 : Rep γ6} {q7 : Rep γ7} {q8 : Rep γ8} {q9 : Rep γ9} {q10 : Rep γ10} {q11 : Rep γ11} {q12 : Rep γ12} {q13 : Rep γ13} {q14 : Rep γ14} {offs : List (Nat × Nat)} {parts : Array (Nat × Operand)} {i1 : Nat} {o1 : Operand} {i2 : Nat} {o2 : Operand} {i3 : Nat} {o3 : Operand} {i4 : Nat} {o4 : Operand} {i5 : Nat} {o5 : Operand} {i6 : Nat} {o6 : Operand} {i7 : Nat} {o7 : Operand} {i8 : Nat} {o8 : Operand} {i9 : Nat} {o9 : Operand} {i10 : Nat} {o10 : Operand} {i11 : Nat} {o11 : Operand} {i12 : Nat} {o12 : Operand} {i13 : Nat} {o13 : Operand} {i14 : Nat} {o14 : Operand} {c1 : γ1} {c2 : γ2} {c3 : γ3} {c4 : γ4} {c5 : γ5} {c6 : γ6} {c7 : γ7} {c8 : γ8} {c9 : γ9} {c10 : γ10} {c11 : γ11} {c12 : γ12} {c13 : γ13} {c14 : γ14} (m1 : Lens α γ1) (m2 : Lens α γ2) (m3 : Lens α γ3) (m4 : Lens α γ4) (m5 : Lens α γ5) (m6 : Lens α γ6) (m7 : Lens α γ7) (m8 : Lens α γ8) (m9 : Lens α γ9) (m10 : Lens α γ10) (m11 : Lens α γ11) (m12 : Lens α γ12) (m13 : Lens α γ13) (m14 : Lens α γ14) (hg : Rep.agg α = true) (tT : TyIs P T α) (hT : fieldOffs P T = some offs) (mk : γ1 → γ2 → γ3 → γ4 → γ5 → γ6 → γ7 → γ8 → γ9 → γ10 → γ11 → γ12 → γ13 → γ14 → α) (hm : ∀ c1 c2 c3 c4 c5 c6 c7 c8 c9 c10 c11 c12 c13 c14, (m14.set c14 (m13.set c13 (m12.set c12 (m11.set c11 (m10.set c10 (m9.set c9 (m8.set c8 (m7.set c7 (m6.set c6 (m5.set c5 (m4.set c4 (m3.set c3 (m2.set c2 (m1.set c1 (default : α))))))))))))))) = mk c1 c2 c3 c4 c5 c6 c7 c8 c9 c10 c11 c12 c13 c14) (hp : parts.toList = [(i1, o1), (i2, o2), (i3, o3), (i4, o4), (i5, o5), (i6, o6), (i7, o7), (i8, o8), (i9, o9), (i10, o10), (i11, o11), (i12, o12), (i13, o13), (i14, o14)]) (h1 : offs[i1]? = some (m1.off, Rep.size γ1)) (h2 : offs[i2]? = some (m2.off, Rep.size γ2)) (h3 : offs[i3]? = some (m3.off, Rep.size γ3)) (h4 : offs[i4]? = some (m4.off, Rep.size γ4)) (h5 : offs[i5]? = some (m5.off, Rep.size γ5)) (h6 : offs[i6]? = some (m6.off, Rep.size γ6)) (h7 : offs[i7]? = some (m7.off, Rep.size γ7)) (h8 : offs[i8]? = some (m8.off, Rep.size γ8)) (h9 : offs[i9]? = some (m9.off, Rep.size γ9)) (h10 : offs[i10]? = some (m10.off, Rep.size γ10)) (h11 : offs[i11]? = some (m11.off, Rep.size γ11)) (h12 : offs[i12]? = some (m12.off, Rep.size γ12)) (h13 : offs[i13]? = some (m13.off, Rep.size γ13)) (h14 : offs[i14]? = some (m14.off, Rep.size γ14)) (e1 : EvA C σ H o1 (.v c1)) (e2 : EvA C σ H o2 (.v c2)) (e3 : EvA C σ H o3 (.v c3)) (e4 : EvA C σ H o4 (.v c4)) (e5 : EvA C σ H o5 (.v c5)) (e6 : EvA C σ H o6 (.v c6)) (e7 : EvA C σ H o7 (.v c7)) (e8 : EvA C σ H o8 (.v c8)) (e9 : EvA C σ H o9 (.v c9)) (e10 : EvA C σ H o10 (.v c10)) (e11 : EvA C σ H o11 (.v c11)) (e12 : EvA C σ H o12 (.v c12)) (e13 : EvA C σ H o13 (.v c13)) (e14 : EvA C σ H o14 (.v c14)) (k : K (.v (mk c1 c2 c3 c4 c5 c6 c7 c8 c9 c10 c11 c12 c13 c14))) :
    OpP P N C ⟨d, .build T parts, ty, ps, af, g⟩ σ H K :=
  .buildS (mk c1 c2 c3 c4 c5 c6 c7 c8 c9 c10 c11 c12 c13 c14) hg tT hT (by rw [hp]; exact (.cons m1 c1 h1 e1 (.cons m2 c2 h2 e2 (.cons m3 c3 h3 e3 (.cons m4 c4 h4 e4 (.cons m5 c5 h5 e5 (.cons m6 c6 h6 e6 (.cons m7 c7 h7 e7 (.cons m8 c8 h8 e8 (.cons m9 c9 h9 e9 (.cons m10 c10 h10 e10 (.cons m11 c11 h11 e11 (.cons m12 c12 h12 e12 (.cons m13 c13 h13 e13 (.cons m14 c14 h14 e14 .nil))))))))))))))) (hm c1 c2 c3 c4 c5 c6 c7 c8 c9 c10 c11 c12 c13 c14) k
theorem OpP.bS0 {α : Type} {r : Rep α} {i0 : Inhabited α} {offs : List (Nat × Nat)} (hg : Rep.agg α = true) (tT : TyIs P T α) (hT : fieldOffs P T = some offs) (k : K (.v (default : α))) : OpP P N C ⟨d, .build T #[], ty, ps, af, g⟩ σ H K := .buildS default hg tT hT .nil rfl k
theorem OpP.fldW {β γ : Type} {s : Rep β} {q : Rep γ} {i off sz : Nat} {ag : Bool} {w : Value} (m : Lens β γ) (hf : fieldOff P T i = some (off, sz + 1, ag)) (ho : off = m.off) (hx : EvA C σ H x (.ln w (Lens.id (α := β)))) (k : K (.ln w m)) :
    OpP P N C ⟨d, .fieldAddr T x i, ty, ps, af, g⟩ σ H K :=
  .vk k (fun ρ I L hs => by
    obtain ⟨u, h2, b, h3, rfl⟩ := hx ρ I L hs
    subst ho
    exact .fieldAddr hf h2 ⟨b, h3, by simp [Lens.id]⟩)
theorem OpP.idxW {β : Type} {s : Rep β} {n : Nat} {ag : Bool} {w : Value} {i : Int} (hf : elemOff P T = some (n, Rep.size β, ag)) (hx : EvA C σ H x (.ln w (Lens.id (α := Arr n β)))) (hy : EvA C σ H y (.v i)) (h0 : 0 ≤ i) (h1 : i < n)
    (k : K (.ln w (Lens.idx (α := β) (n := n) i.toNat (by omega)))) : OpP P N C ⟨d, .indexAddr T x y, ty, ps, af, g⟩ σ H K :=
  .vk k (fun ρ I L hs => by
    obtain ⟨u, h2, b, h3, rfl⟩ := hx ρ I L hs
    exact .indexAddrA hf h2 (hy.int hs).1 h0 h1 ⟨b, h3, by simp [Lens.id, Lens.idx]⟩)
/-- Loads and stores whose lens is spelled out. -/
theorem OpP.ldF {α β : Type} {r : Rep α} {s : Rep β} {i : Inhabited β} {w : Value} {l : Lens α β} {a : α} {bb : Bool} {F : Bool × Blk → AHeap} (f : α → β) (tT : TyIs P T β) (hx : EvA C σ H x (.ln w l)) (hH : Hole H (bb, .ob w a) F) (hf : ∀ x, l.get x = f x) (k : K (.v (f a))) :
    OpP P N C ⟨d, .load T x, ty, ps, af, g⟩ σ H K := .ldL tT hx hH (hf a ▸ k)
theorem OpH.stF {α β : Type} {r : Rep α} {s : Rep β} {i : Inhabited β} {w : Value} {l : Lens α β} {a : α} {c : β} {bb : Bool} {F : Bool × Blk → AHeap} (f : β → α → α) (tT : TyIs P T β) (hx : EvA C σ H x (.ln w l)) (hy : EvA C σ H y (.v c)) (hH : Hole H (bb, .ob w a) F) (hf : ∀ y x, l.set y x = f y x)
    (k : KH .any (F (bb, .ob w (f c a)))) : OpH P C N ⟨d, .store T x y, ty, ps, af, g⟩ σ H KH := .stL tT hx hy hH (hf c a ▸ k)
theorem OpP.ldEW {α : Type} {r : Rep α} {i : Inhabited α} {w : Value} {as : List α} {kk : Nat} {bb : Bool} {E' : TypeId} {F : Bool × Blk → AHeap} (tT : TyIs P T α) (hx : EvA C σ H x (.el w kk (Lens.id (α := α)))) (hH : Hole H (bb, .own E' w as) F) (hk : kk < as.length)
    (k : K (.v as[kk])) : OpP P N C ⟨d, .load T x, ty, ps, af, g⟩ σ H K := .ldE tT hx hH hk k
theorem OpH.stEW {α : Type} {r : Rep α} {i : Inhabited α} {w : Value} {as : List α} {c : α} {kk : Nat} {bb : Bool} {E' : TypeId} {F : Bool × Blk → AHeap} (tT : TyIs P T α) (hx : EvA C σ H x (.el w kk (Lens.id (α := α)))) (hy : EvA C σ H y (.v c))
    (hH : Hole H (bb, .own E' w as) F) (hk : kk < as.length) (k : KH .any (F (bb, .own E' w (as.set kk c)))) : OpH P C N ⟨d, .store T x y, ty, ps, af, g⟩ σ H KH := .stE tT hx hy hH hk k
theorem OpP.fldPF {β γ : Type} {s : Rep β} {q : Rep γ} {i off sz : Nat} {ag : Bool} {a : β} (m : Lens β γ) (f : β → γ) (hf : fieldOff P T i = some (off, sz + 1, ag)) (ho : off = m.off) (hm : ∀ x, m.get x = f x) (hx : EvA C σ H x (.p a)) (k : K (.p (f a))) :
    OpP P N C ⟨d, .fieldAddr T x i, ty, ps, af, g⟩ σ H K := .fldP m hf ho hx (hm a ▸ k)
theorem OpP.fldF {β γ : Type} {s : Rep β} {q : Rep γ} {i off sz : Nat} {ag : Bool} {a : β} (m : Lens β γ) (f : β → γ) (hf : fieldOff P T i = some (off, sz, ag)) (ho : off = m.off) (hz : sz = Rep.size γ) (hg : ag = Rep.agg γ) (hb : Rep.agg β = true) (hm : ∀ x, m.get x = f x) (hx : EvA C σ H x (.v a)) (k : K (.v (f a))) :
    OpP P N C ⟨d, .field T x i, ty, ps, af, g⟩ σ H K := .fld m hf ho hz hg hb hx (hm a ▸ k)
end Go.Ab
/- Function values: what a closure answers on typed arguments, closures made and called. -/
set_option linter.unusedVariables false
namespace Go.Ab
open Go.Fl Go.RowKit
open Rep (rep)

/-- A function value that answers r i on the arguments as i. -/
def Clo (P : Program) {ι : Type} (as : ι → List AV) (r : ι → AV) (I : Im) (u : Value) : Prop :=
  ∃ f fi ca, u = .func (.func f) fi ca ∧ ∀ J, Le I J → ∀ i vs, RepVs J (as i) vs → Fun P f (fi ++ vs.toArray ++ ca) J (fun v K => RepV K (r i) v)
theorem Clo.mono {P : Program} {ι : Type} {as : ι → List AV} {r : ι → AV} {I J : Im} {u : Value} (hle : Le I J) (h : Clo P as r I u) : Clo P as r J u := by
  obtain ⟨f, fi, ca, h1, h2⟩ := h
  exact ⟨f, fi, ca, h1, fun K hk => h2 K (hle.trans hk)⟩
def AV.clo (P : Program) {ι : Type} (as : ι → List AV) (r : ι → AV) : AV := .pr (Clo P as r) Clo.mono
def AV.clo1 (P : Program) {α β : Type} [Rep α] [Rep β] (g : α → β) : AV := .clo P (fun x : α => [.v x]) (fun x => .v (g x))
def AV.clo0 (P : Program) (r : AV) : AV := .clo P (fun _ : Unit => []) (fun _ => r)
def AV.clo2 (P : Program) {α β γ : Type} [Rep α] [Rep β] [Rep γ] (g : α → β → γ) : AV := .clo P (fun x : α × β => [.v x.1, .v x.2]) (fun x => .v (g x.1 x.2))

theorem run_callClo {P : Program} {f : FuncId} {fi ca : Array Value} (ok : CallOk P f) {a : Act} {w : World} {o : Oper} {F : Operand} {args : Array Operand} {tys : Array TypeId} (ho : o.op = .call ⟨.value F, args, tys⟩)
    (hF : a.eval F = .func (.func f) fi ca) {vs : List Value} (hv : args.toList.map a.eval = vs) : (execOp a.eval o).run P w = .ok (.enter f (fi ++ vs.toArray ++ ca)) w := by
  obtain ⟨fn, h1, h2, h3⟩ := ok.ok
  subst hv
  have hargs : args.map a.eval = (args.toList.map a.eval).toArray := by cases args; simp
  have h2' : ¬ fn.name = "runtime.NumGoroutine" := by simpa using h2
  have h3' : fn.body ≠ none := by intro e; simp [e] at h3
  simp [execOp, ho, resolve, Deferred.ofValue, hF, invoke, callFunc, program, Sem.run, h1, h2', h3', ← hargs]
theorem OpX.callC {P : Program} {N : Nat} {ρ : Env} {I : Im} {L : Lh} {f : FuncId} {fi ca : Array Value} {d : Option Nat} {F : Operand} {args : Array Operand} {tys : Array TypeId} {ty : TypeId} {ps : String} {af : Array Edge} {g : Option (Nat × Bool)} {vs : List Value}
    {post : Value → Im → Prop} {K : Value → Im → Lh → Prop} (hF : ev ρ F = some (.func (.func f) fi ca)) (hv : evL ρ args.toList = some vs) (h : Fun P f (fi ++ vs.toArray ++ ca) I post)
    (k : ∀ v J, Le I J → post v J → K v J []) : OpX P N ⟨d, .call ⟨.value F, args, tys⟩, ty, ps, af, g⟩ ρ I L K := fun a w ha hm => by
  rw [run_callClo h.ok rfl (ha.ev hF) (ha.evL hv)]
  refine (h.run w hm.drop).mono ?_
  rintro e w' ⟨v, J, rfl, hc, hle, hn, hm', hp⟩
  refine ⟨v, rfl, J, [], hc, hle, hn, ?_, by simp, k v J hle hp⟩
  have hlt : ∀ p ∈ L.flatten, p.1 < w.heap.size := fun p hp => lt_of_get (hm.loc p hp)
  refine ⟨hm'.im, fun p hp => (hc.block p.1 (hlt p hp) (by simp)).trans (hm.loc p hp), fun p hp => ?_, hm.nodup⟩
  cases hj : J p.1 with
  | none => rfl
  | some o => exact absurd (hn p.1 (hm.sep p hp) (by simp [hj])) (by have := hlt p hp; omega)

section clo
variable {P : Program} {C : Ctx} {N : Nat} {σ : AEnv} {H : AHeap} {G : Gl} {f : FuncId} {d : Option Nat} {args : Array Operand} {tys : Array TypeId} {ty : TypeId} {ps : String} {af : Array Edge} {g : Option (Nat × Bool)} {K : AV → Prop}
/-- The call of a function value. -/
theorem OpP.callClo {ι : Type} {as : ι → List AV} {r : ι → AV} {t : Nat} (i : ι) (ht : lookA σ t = some (.clo P as r)) (hv : EvAs C σ H args.toList (as i)) (k : K (r i)) :
    OpP P N C ⟨d, .call ⟨.value (.tmp t), args, tys⟩, ty, ps, af, g⟩ σ H K := fun ρ I L hs => by
  obtain ⟨u, h1, f, fi, ca, rfl, h2⟩ := hs.env t _ ht
  obtain ⟨vs, h3, h4⟩ := hv.get hs
  exact OpX.callC (F := .tmp t) h1 h3 (h2 I (Le.refl I) i vs h4) fun v J hle h5 => ⟨rfl, r i, h5, k⟩
theorem OpP.callClo1 {α β : Type} [Rep α] [Rep β] {g1 : α → β} {x : α} {t : Nat} {a : Operand} (ht : lookA σ t = some (.clo1 P g1)) (ha : EvA C σ H a (.v x)) (k : K (.v (g1 x))) :
    OpP P N C ⟨d, .call ⟨.value (.tmp t), #[a], tys⟩, ty, ps, af, g⟩ σ H K := .callClo (as := fun x : α => [.v x]) (r := fun x => .v (g1 x)) x ht (.cons ha .nil) k
theorem OpP.callClo0 {r : AV} {t : Nat} (ht : lookA σ t = some (.clo0 P r)) (k : K r) :
    OpP P N C ⟨d, .call ⟨.value (.tmp t), #[], tys⟩, ty, ps, af, g⟩ σ H K := .callClo (ι := Unit) (as := fun _ => []) (r := fun _ => r) () ht .nil k
theorem OpP.callClo2 {α β γ : Type} [Rep α] [Rep β] [Rep γ] {g2 : α → β → γ} {x : α} {y : β} {t : Nat} {a b : Operand} (ht : lookA σ t = some (.clo2 P g2)) (ha : EvA C σ H a (.v x)) (hb : EvA C σ H b (.v y)) (k : K (.v (g2 x y))) :
    OpP P N C ⟨d, .call ⟨.value (.tmp t), #[a, b], tys⟩, ty, ps, af, g⟩ σ H K := .callClo (as := fun x : α × β => [.v x.1, .v x.2]) (r := fun x => .v (g2 x.1 x.2)) (x, y) ht (.cons ha (.cons hb .nil)) k
theorem RepVs.append {I : Im} : ∀ {as bs : List AV} {vs ws : List Value}, RepVs I as vs → RepVs I bs ws → RepVs I (as ++ bs) (vs ++ ws)
  | [], _, _, _, h, k => by simp [RepVs] at h; subst h; simpa using k
  | a :: as, _, _, _, h, k => by obtain ⟨v, r, rfl, h2, h3⟩ := h; exact ⟨v, r ++ _, rfl, h2, h3.append k⟩
/-- A closure is made. -/
theorem OpP.mkClo (hG : G.p C.I0) {ι : Type} {as : ι → List AV} {r : ι → AV} {caps : List AV} (h : ∀ i, FunA G P f (as i ++ caps) (fun x => x = r i)) (hv : EvAs C σ H args.toList caps) (k : K (.clo P as r)) :
    OpP P N C ⟨d, .makeFunc (.func f) #[] args, ty, ps, af, g⟩ σ H K := .ofV (.clo P as r) (fun ρ I L hs => fun a w ha hm => by
      obtain ⟨vs, h1, h2⟩ := hv.get hs
      have e := ha.evL h1
      have hargs : args.map a.eval = vs.toArray := by rw [← e]; cases args; simp
      refine ⟨.func (.func f) #[] vs.toArray, ⟨f, #[], vs.toArray, rfl, fun J hle i ws hw => ?_⟩, by simp [execOp, Instr.makeFunc, hargs]⟩
      have h3 := h i J (ws ++ vs) (G.mono (hs.im0.trans hle) hG) (hw.append (h2.mono hle))
      simp only [List.append_toArray]
      exact h3.mono fun v K _ ⟨x, h4, h5⟩ => h5 ▸ h4) k
theorem OpP.mkClo1 (hG : G.p C.I0) {α β : Type} [Rep α] [Rep β] {g1 : α → β} {caps : List AV} (h : ∀ x, FunA G P f (.v x :: caps) (fun r => r = .v (g1 x))) (hv : EvAs C σ H args.toList caps) (k : K (.clo1 P g1)) :
    OpP P N C ⟨d, .makeFunc (.func f) #[] args, ty, ps, af, g⟩ σ H K := .mkClo hG (as := fun x : α => [.v x]) (r := fun x => .v (g1 x)) h hv k
theorem OpP.mkClo0 (hG : G.p C.I0) {r : AV} {caps : List AV} (h : FunA G P f caps (fun x => x = r)) (hv : EvAs C σ H args.toList caps) (k : K (.clo0 P r)) :
    OpP P N C ⟨d, .makeFunc (.func f) #[] args, ty, ps, af, g⟩ σ H K := .mkClo hG (ι := Unit) (as := fun _ => []) (r := fun _ => r) (fun _ => h) hv k
theorem OpP.mkClo2 (hG : G.p C.I0) {α β γ : Type} [Rep α] [Rep β] [Rep γ] {g2 : α → β → γ} {caps : List AV} (h : ∀ x y, FunA G P f (.v x :: .v y :: caps) (fun r => r = .v (g2 x y))) (hv : EvAs C σ H args.toList caps) (k : K (.clo2 P g2)) :
    OpP P N C ⟨d, .makeFunc (.func f) #[] args, ty, ps, af, g⟩ σ H K := .mkClo hG (as := fun x : α × β => [.v x.1, .v x.2]) (r := fun x => .v (g2 x.1 x.2)) (fun i => h i.1 i.2) hv k
/-- A function's name as a value. -/
theorem EvA.cloF (hG : G.p C.I0) {ι : Type} {as : ι → List AV} {r : ι → AV} (h : ∀ i, FunA G P f (as i) (fun x => x = r i)) : EvA C σ H (.func f) (.clo P as r) := fun ρ I L hs =>
  ⟨_, rfl, f, #[], #[], rfl, fun J hle i ws hw => by
    simp only [Array.empty_append, Array.append_empty]
    exact (h i J ws (G.mono (hs.im0.trans hle) hG) hw).mono fun v K _ ⟨x, h4, h5⟩ => h5 ▸ h4⟩
end clo
end Go.Ab
/- More rules over typed values: bytes to a string, slices held against nil, a slice cut to its length, copy into an own array. -/
set_option linter.unusedVariables false
namespace Go.Ab
open Go.Fl Go.RowKit
open Rep (rep)
section rules
variable {P : Program} {C : Ctx} {N : Nat} {σ : AEnv} {H : AHeap} {d : Option Nat} {ty : TypeId} {ps : String} {af : Array Edge} {g : Option (Nat × Bool)} {K : AV → Prop} {KH : AV → AHeap → Prop} {x y z : Operand} {T T2 E S D U : TypeId}
theorem foldl_bytes : ∀ (l : List UInt8) (s : ByteArray), (l.map (fun c => (c.toNat : Int))).foldl (fun r n => r.push (UInt8.ofNat n.toNat)) s = ⟨s.data ++ l.toArray⟩
  | [], s => by simp
  | c :: l, s => by
    rw [List.map_cons, List.foldl_cons, foldl_bytes l]
    simp [ByteArray.push]
/-- string(b) of bytes. -/
theorem OpP.bytesStr {l : List UInt8} (hS : P.underlying S = some (.slice E)) (hE : P.underlying E = some (.int .u8)) (hD : P.underlying D = some .string) (hx : EvA C σ H x (.v l)) (k : K (.v (Str.mk l))) :
    OpP P N C ⟨d, .convert S D x, ty, ps, af, g⟩ σ H K :=
  .vk k (fun ρ I L hs => .mk ⟨[.string ⟨l.toArray⟩], ⟨⟨_, rfl, by simp⟩, by
      obtain ⟨u, h1, xs, ⟨a, c, rfl, h2, h3, h4, _⟩, _⟩ := hx.sl hs
      unfold maxLen at h4; show l.length ≤ _; omega⟩, rfl⟩ fun ac w ha hm => by
    obtain ⟨u, h1, xs, hsl, hl⟩ := hx.sl hs
    obtain rfl := repL_u8.1 hl
    obtain ⟨a, c, rfl, h2, h3, h4, h5, h6⟩ := hsl
    have hrun : (convert S D (.slice a l.length c)).run P w = .ok (.string ⟨l.toArray⟩) w := by
      rw [run_convert_bytes_string w S D E a l.length c hS hE hD]
      cases a with
      | none =>
        have hc := h5 rfl
        have : l = [] := List.eq_nil_of_length_eq_zero (by omega)
        subst this
        simp [Conv.bytesToString]; rfl
      | some ad =>
        have hload : (loadCells ad l.length).run P w = .ok ((l.map (fun c => (c.toNat : Int))).map (Value.int .u8)).toArray w := by
          have h7 := run_loadCells_list (P := P) w ad (bytesV l) (fun j v hj => by
            have hne : bytesV l ≠ [] := by intro e; simp [e] at hj
            obtain ⟨b, o, hab, hcl⟩ := h6 hne
            cases hab
            have := hcl.cell hm hj
            have hplain : (⟨b, o, none⟩ : Addr).add j = ⟨b, o + j, none⟩ := by unfold Addr.add; split <;> simp_all
            rw [hplain]; exact this)
          have e1 : (bytesV l).length = l.length := by simp [bytesV]
          have e2 : (l.map (fun c => (c.toNat : Int))).map (Value.int .u8) = bytesV l := by simp [bytesV, Fl.u8]
          rw [e1] at h7
          rw [e2]; exact h7
        rw [run_bytesToString w ad l.length c _ hload, foldl_bytes]
        simp [ByteArray.empty, ByteArray.emptyWithCapacity]
        rfl
    simp [execOp, ha.ev h1, hrun, asV, Rep.agg])
/-- x == nil of a slice: if so, it has no elements. -/
theorem OpP.eqNilS {α : Type} {r : Rep α} {l : List α} (hT : P.underlying T = some (.slice E)) (hx : EvA C σ H x (.v l)) (k : ∀ c : Bool, (c = true → l = []) → K (.v c)) :
    OpP P N C ⟨d, .binOp .eql T x (.const (.slice none 0 0)) T2, ty, ps, af, g⟩ σ H K := fun ρ I L hs => by
  obtain ⟨u, h1, xs, ⟨a, c, rfl, h2, h3, h4, h5, h6⟩, hl⟩ := hx.sl hs
  refine .ofV (OpV.eqlNilS hT h1 rfl ⟨rfl, .v a.isNone, ⟨_, rfl, rfl⟩, k _ fun e => ?_⟩)
  have := h5 (by simpa using e)
  exact List.eq_nil_of_length_eq_zero (by omega)
theorem OpP.neNilS {α : Type} {r : Rep α} {l : List α} (hT : P.underlying T = some (.slice E)) (hx : EvA C σ H x (.v l)) (k : ∀ c : Bool, (c = false → l = []) → K (.v c)) :
    OpP P N C ⟨d, .binOp .neq T x (.const (.slice none 0 0)) T2, ty, ps, af, g⟩ σ H K := fun ρ I L hs => by
  obtain ⟨u, h1, xs, ⟨a, c, rfl, h2, h3, h4, h5, h6⟩, hl⟩ := hx.sl hs
  refine .ofV (OpV.neqNilS hT h1 rfl ⟨rfl, .v (!a.isNone), ⟨_, rfl, rfl⟩, k _ fun e => ?_⟩)
  have := h5 (by simpa using e)
  exact List.eq_nil_of_length_eq_zero (by omega)
/-- s[:len(s):len(s)] -/
theorem OpP.slClip {α : Type} {r : Rep α} {i0 : Inhabited α} {l : List α} (tE : TyIs P E α) (hT : P.underlying T = some (.slice E)) (hx : EvA C σ H x (.v l)) (hy : EvA C σ H y (.v (l.length : Int))) (hz : EvA C σ H z (.v (l.length : Int)))
    (k : K (.vc l)) : OpP P N C ⟨d, .slice T x none (some y) (some z), ty, ps, af, g⟩ σ H K := fun ρ I L hs => by
  obtain ⟨u, h1, xs, ⟨a, c, rfl, h2, h3, h4, h5, h6⟩, hl⟩ := hx.sl hs
  have hv : ∀ a2 : Option Addr, (a2 = a ∨ (xs ≠ [] ∧ a2 = a)) → RepV I (.vc l) (.slice a2 l.length l.length) := fun a2 ha2 => by
    obtain rfl : a2 = a := ha2.elim id (·.2)
    exact ⟨⟨_, rfl⟩, xs, ⟨a2, l.length, rfl, h2, Nat.le_refl _, by omega, fun hn => by have := h5 hn; omega, h6⟩, hl⟩
  have hadd : ∀ sz : Nat, (if l.length = 0 then a else a.map (·.add (0 * sz))) = a := fun sz => by
    split
    · rfl
    · cases a with
      | none => rfl
      | some ad => cases ad; simp [Addr.add]
  refine .ofV (.mk (v := .slice a l.length l.length) ⟨rfl, .vc l, hv a (.inl rfl), k⟩ fun ac w ha hm => ?_)
  have e1 : (l.length : Int) ≤ (c : Int) := by omega
  have hsb : (Instr.sliceBounds true l.length c none (some (i64 l.length)) (some (i64 l.length))).run P w = .ok (0, l.length, l.length) w := by
    simp [Instr.sliceBounds, Instr.sliceBound, asIntOf, e1]
  have e2 := (hy.int hs).1
  have e3 := (hz.int hs).1
  have hrun : (Instr.sliceAt T (.slice a l.length c) none (some (i64 l.length)) (some (i64 l.length))).run P w = .ok (.slice a l.length l.length) w := by
    simp only [Instr.sliceAt, Instr.slice, Sem.run_bind, run_underlying hT, Result.andThen_ok, hsb, tE.size.run, Sem.run_pure, Nat.sub_zero, hadd]
  simp [execOp, ha.ev h1, ha.ev e2, ha.ev e3, hrun]
/-- What copy leaves in an array. -/
def arrCopy {n : Nat} {α : Type} (a : Arr n α) (m : List α) : Arr n α := ⟨m.take n ++ a.l.drop m.length, by simp; omega⟩
theorem OpH.copySv {α β : Type} {n : Nat} {r : Rep α} {s : Rep β} {i0 : Inhabited β} {w : Value} {l : Lens α (Arr n β)} {a : α} {m : List β} {bb : Bool} {F : Bool × Blk → AHeap} (tE : TyIs P E β) (hT : P.underlying T = some (.slice E)) (hx : EvA C σ H x (.sv w l))
    (hH : Hole H (bb, .ob w a) F) (hy : SrcA P C σ H y m) (hb : m.length ≤ 9223372036854775807) (k : KH (.v ((min m.length n : Nat) : Int)) (F (bb, .ob w (l.set (arrCopy (l.get a) m) a)))) :
    OpH P C N ⟨d, .call ⟨.builtin .copy, #[x, y], #[T, U]⟩, ty, ps, af, g⟩ σ H KH := fun ρ I L hs => by
  obtain ⟨u, h1, b, h0, rfl⟩ := hx ρ I L hs
  obtain ⟨v, news, h2, h3, h4⟩ := hy ρ I L hs
  obtain ⟨j, X, h5, h6, h7⟩ := hH.get hs.heap
  obtain ⟨b2, T', cs, rfl, rfl, h9⟩ := h6.1
  cases h0
  intro ac w0 ha hst
  have hmem := hst.mem
  generalize hmn : min m.length n = q at k
  have hsz := tE.size.run w0
  have hfc := h3.cells w0 hmem q (by omega)
  have hl4 := h4.len
  have hget := l.gets h9
  have hfits := l.fits
  have hfits2 : l.off + n * Rep.size β ≤ Rep.size α := hfits
  have hcl := Rep.len h9
  have hsegl : (segGet cs l.off (n * Rep.size β)).length = n * Rep.size β := by
    simp only [segGet, List.length_take, List.length_drop]; omega
  have hal : (l.get a).l.length = n := (l.get a).h
  have hlist : m.take n = m.take q := by rw [← hmn, List.take_eq_take_iff]; omega
  have hdrop : (l.get a).l.drop m.length = (l.get a).l.drop q := by
    by_cases h : m.length ≤ n
    · rw [← hmn, Nat.min_eq_left h]
    · rw [List.drop_eq_nil_of_le (by omega), List.drop_eq_nil_of_le (by omega)]
  have hnl : (news.take (q * Rep.size β)).length = q * Rep.size β := by
    rw [List.length_take, hl4]; exact Nat.min_eq_left (Nat.mul_le_mul_right _ (by omega))
  have hqn : q * Rep.size β ≤ n * Rep.size β := Nat.mul_le_mul_right _ (by omega)
  have hrep : repL I (m.take n ++ (l.get a).l.drop m.length) (segSet (segGet cs l.off (n * Rep.size β)) 0 (news.take (q * Rep.size β))) := by
    rw [hlist, hdrop]
    have h10 := h4.cut 0 q (by omega)
    have h11 := repL.cut (show repL I (l.get a).l _ from hget) q n (by omega)
    simp only [List.drop_zero, Nat.zero_mul] at h10 h11
    rw [List.take_of_length_le (show (l.get a).l.length ≤ n by omega)] at h11
    rw [List.take_of_length_le (show (segGet cs l.off (Rep.size (Arr n β))).length ≤ n * Rep.size β from Nat.le_of_eq hsegl)] at h11
    simp only [segSet, List.take_zero, List.nil_append, Nat.zero_add]
    rw [hnl]
    exact h10.append h11
  have hbh := hst.mem.loc (b, row cs T') (mem_chunk h5 (by simp))
  have hall : ∀ u ∈ news.take (q * Rep.size β), u.oneCell' = true := fun u hu => List.all_eq_true.1 h4.flat u (List.mem_of_mem_take hu)
  have hfit : l.off + (news.take (q * Rep.size β)).length ≤ cs.length := by rw [hnl, hcl]; omega
  have hst2 := run_storeCells_fr P b l.off T' (0, 0) (news.take (q * Rep.size β)) 0 cs.toArray w0 hbh (by simpa using hfit) hall (fun j hj => by omega)
  have hr : (execOp ac.eval ⟨d, .call ⟨.builtin .copy, #[x, y], #[T, U]⟩, ty, ps, af, g⟩).run P w0 = .ok (.value (goInt q)) (w0.setRow b (segSet cs l.off (news.take (q * Rep.size β))).toArray) := by
    simp [execOp, resolve, invoke, builtin, Builtin.copy_, run_underlying hT, h3.len w0, hsz, ha.ev h1, ha.ev h2, hmn, hfc]
    simp only [Nat.add_zero] at hst2
    simp [hst2, segSet]
  rw [hr]
  have hset : rep I (l.set (arrCopy (l.get a) m) a) (segSet cs l.off (news.take (q * Rep.size β))) := by
    have h12 := l.sets (y := arrCopy (l.get a) m) h9 (show rep I (arrCopy (l.get a) m) _ from hrep)
    rw [segSet_segSet (by rw [hnl, Nat.zero_add]; exact hqn) (by rw [hcl]; exact hfits2)] at h12
    exact h12
  refine ⟨I, _, setRowG hst h5 _, Le.refl I, .v ((q : Nat) : Int), _, ⟨_, ⟨rfl, by omega, by omega⟩, rfl⟩, h7 I (bb, .ob (ptr b 0) (l.set (arrCopy (l.get a) m) a)) [(b, row _ T')] (Le.refl I) ⟨⟨b, T', _, rfl, rfl, hset⟩, fun hbb p hp => ?_⟩, k⟩
  have := h6.2 hbb _ (List.mem_singleton.2 rfl)
  simp only [List.mem_singleton] at hp
  subst hp; exact this
end rules
end Go.Ab
/- Regions that draw their order: pure operations, and others whose order an invariant governs. -/
set_option linter.unusedVariables false
namespace Go.Ab
open Go.Fl Go.RowKit
open Rep (rep)
structure GInv (P : Program) (C : Ctx) (N n : Nat) (l : List Oper) (ci : List Nat) (σ0 : AEnv) (accP : List (Nat × AV)) (Inv : Array Bool → List (Nat × AV) → AHeap → Prop) (ρ0 : Env) (I : Im)
    (listed : Array Bool) (cacc : List (Nat × AV)) (H : AHeap) (J : Im) (L : Lh) (vs : Nat → Value) (a : Act) (w : World) : Prop where
  head : HeadInv .any l.toArray n listed
  le : Le I J
  im0 : Le C.I0 J
  st : St C J L w
  heap : repH C.w0.heap.size J H L
  pl : Inv listed cacc H
  keys : ∀ j r, lookR cacc j = some r → j ∈ ci
  fresh : ∀ j r, lookR cacc j = some r → listed.getD j false = true
  prom : ∀ j r r0, lookR cacc j = some r → lookR accP j = some r0 → r = r0
  proL : ∀ j, j ∈ ci → listed.getD j false = true → ∃ r, lookR cacc j = some r
  val : ∀ j, j < n → listed.getD j false = true → ∃ r, lookR (cacc ++ accP) j = some r ∧ RepV J r (vs j)
  defers : a.defers = []
  size : a.tmps.size = N
  tmpI : ∀ j d, j < n → listed.getD j false = true → (l.toArray[j]?).bind (·.dst) = some d → a.tmps[d]? = some (vs j)
  tmpO : ∀ t v, Fl.look ρ0 t = some v → (∀ j, j < n → listed.getD j false = true → (l.toArray[j]?).bind (·.dst) ≠ some t) → a.tmps[t]? = some v
section
variable {P : Program} {C : Ctx} {N n : Nat} {l : List Oper} {ci : List Nat} {ss : List (List (Nat × Nat))} {σ0 : AEnv} {ι : Type 1} {HT : Nat → ι → AHeap} {accP : List (Nat × AV)} {Inv : Array Bool → List (Nat × AV) → AHeap → Prop} {ρ0 : Env} {I : Im} {L0 : Lh} {H0 : AHeap}
theorem GInv.step {listed : Array Bool} {cacc : List (Nat × AV)} {H : AHeap} {J : Im} {L : Lh} {vs : Nat → Value} {a : Act} {w : World} {Q' : Exit → Act → World → Prop}
    (h0 : RSt C I L0 σ0 H0 ρ0) (hN : dstOk N l = true) (hok : ∀ i, i < n → opOkC l.toArray n ss i = true) (hdst : dstsOkC l.toArray n = true)
    (hfam : ∀ listed cacc H i, Inv listed cacc H → i < n → i ∉ ci → listed.getD i false = false → ∃ q, H = HT i q) (hpure : ∀ listed cacc H i, Inv listed cacc H → i ∉ ci → Inv (listed.setIfInBounds i true) cacc H)
    (hstep : ∀ listed cacc H i o s, Inv listed cacc H → i ∈ ci → l[i]? = some o → ss[i]? = some s → listed.getD i false = false → (∀ j, Region.waitsFor .any l.toArray i j = true → listed.getD j false = true) → i < listed.size →
      o.guard = none ∧ OpH P C N o (envOf σ0 (cacc ++ accP) s (opTmps o)) H (fun r H' => (∀ r0, lookR accP i = some r0 → r = r0) ∧ Inv (listed.setIfInBounds i true) ((i, r) :: cacc) H'))
    (hp : ∀ i o s, i < n → i ∉ ci → l[i]? = some o → ss[i]? = some s → ∃ r, lookR accP i = some r ∧ dutyQ P N C σ0 (HT i) accP o s r)
    (inv : GInv P C N n l ci σ0 accP Inv ρ0 I listed cacc H J L vs a w) {i : Nat} (hr : i ∈ Region.ready .any l.toArray listed) (hin : i < n)
    {K : Act → World → Prop} (hK : ∀ cacc H J L vs a' w, GInv P C N n l ci σ0 accP Inv ρ0 I (listed.setIfInBounds i true) cacc H J L vs a' w → K a' w) :
    wpOp P l.toArray Q' i K a w := by
  obtain ⟨hun, o, ho, hall⟩ := mem_ready.1 hr
  have hol : l[i]? = some o := by simpa using ho
  have hok' := hok i hin
  unfold opOkC at hok'
  simp only [ho] at hok'
  cases hs : ss[i]? with
  | none => simp [hs] at hok'
  | some s =>
  simp only [hs, Bool.and_eq_true] at hok'
  obtain ⟨hreads, hguard⟩ := hok'
  have hdN : ∀ d, o.dst = some d → d < N := fun d hod => by
    have := List.all_eq_true.1 hN o (List.mem_of_getElem? hol)
    rw [hod] at this
    simpa [Nat.blt_eq] using this
  have hlisted : ∀ j, Region.waitsFor .any l.toArray i j = true → listed.getD j false = true := fun j hw => by
    obtain ⟨e, he, hb, heq⟩ := waits_mem ho hw
    exact heq ▸ hall e he hb
  have hilt : i < listed.size := by
    rcases Nat.lt_or_ge i listed.size with h' | h'
    · exact h'
    · simp [Array.getElem?_eq_none h'] at hun
  have hiun : listed.getD i false = false := getD_both hun
  have hnot : ∀ j, Region.waitsFor .any l.toArray j i = true → listed.getD j false = true → False := fun j hw hl => by
    obtain ⟨oj, hoj, e, he, hb, heq⟩ := Region.waitsFor_spec hw
    have := inv.head.closed j oj hoj hl e he hb
    rw [heq, hiun] at this
    cases this
  let g : Nat → Option Value := fun t => match srcOf s t with | some j => some (vs j) | none => Fl.look ρ0 t
  have hsrcl : ∀ t ∈ opTmps o, ∀ j, srcOf s t = some j → j < n ∧ listed.getD j false = true ∧ (l.toArray[j]?).bind (·.dst) = some t := fun t ht j hj => by
    have hro := List.all_eq_true.1 hreads t ht
    unfold readOk at hro
    simp only [hj, Bool.and_eq_true, beq_iff_eq] at hro
    exact ⟨by simpa [Nat.blt_eq] using hro.1.1, hlisted j hro.2, hro.1.2⟩
  have hfits : Fits N (mkEnv g (opTmps o)) a := by
    refine ⟨inv.defers, inv.size, fun t v hv => ?_⟩
    obtain ⟨hmem, hg⟩ := look_mkEnv hv
    cases hsrc : srcOf s t with
    | some j =>
      obtain ⟨h1, h2, h3⟩ := hsrcl t hmem j hsrc
      have hgv : vs j = v := by simpa [g, hsrc] using hg
      rw [← hgv]
      exact inv.tmpI j t h1 h2 h3
    | none =>
      have hro := List.all_eq_true.1 hreads t hmem
      unfold readOk at hro
      simp only [hsrc] at hro
      refine inv.tmpO t v (by simpa [g, hsrc] using hg) fun j hj hl hdj => ?_
      have h1 := List.all_eq_true.1 hro j (List.mem_range.2 hj)
      simp only [hdj, beq_self_eq_true, Bool.not_true, Bool.false_or, Bool.or_eq_true, beq_iff_eq] at h1
      rcases h1 with h1 | h1
      · subst h1; rw [hiun] at hl; cases hl
      · exact hnot j h1 hl
  have henv : ∀ t b, lookA (envOf σ0 (cacc ++ accP) s (opTmps o)) t = some b → ∃ u, Fl.look (mkEnv g (opTmps o)) t = some u ∧ RepV J b u := fun t b hb => by
    obtain ⟨hmem, hb2⟩ := envOf_look hb
    cases hsrc : srcOf s t with
    | some j =>
      simp only [hsrc] at hb2
      obtain ⟨h1, h2, _⟩ := hsrcl t hmem j hsrc
      obtain ⟨r, h3, h4⟩ := inv.val j h1 h2
      rw [hb2] at h3
      cases h3
      exact ⟨vs j, by rw [look_mkEnv_mem hmem]; simp [g, hsrc], h4⟩
    | none =>
      simp only [hsrc] at hb2
      obtain ⟨u, h1, h2⟩ := h0.env t b hb2
      exact ⟨u, by rw [look_mkEnv_mem hmem]; simpa [g, hsrc] using h1, h2.mono inv.le⟩
  have hR : RSt C J L (envOf σ0 (cacc ++ accP) s (opTmps o)) H (mkEnv g (opTmps o)) := ⟨henv, inv.heap, inv.im0⟩
  have hput : ∀ j, j ≠ i → (listed.setIfInBounds i true).getD j false = listed.getD j false := fun j hj => getD_set_ne false (Ne.symm hj)
  have hdne : ∀ j, j < n → j ≠ i → ∀ d', (l.toArray[j]?).bind (·.dst) = some d' → o.dst ≠ some d' := by
    intro j hj hji d' hd' hod
    have hdi : (l.toArray[i]?).bind (·.dst) = some d' := by rw [ho]; exact hod
    rcases Nat.lt_or_gt_of_ne hji with h1 | h1
    · have := List.all_eq_true.1 (List.all_eq_true.1 hdst i (List.mem_range.2 hin)) j (List.mem_range.2 h1)
      rw [hdi, hd'] at this
      simp at this
    · have := List.all_eq_true.1 (List.all_eq_true.1 hdst j (List.mem_range.2 hj)) i (List.mem_range.2 h1)
      rw [hdi, hd'] at this
      simp at this
  -- what a finished operation does
  have fin : ∀ v J' L' H' cacc' w' r, Le J J' → St C J' L' w' → repH C.w0.heap.size J' H' L' → RepV J' r v → lookR (cacc' ++ accP) i = some r → (∀ j, j ≠ i → lookR (cacc' ++ accP) j = lookR (cacc ++ accP) j) →
      Inv (listed.setIfInBounds i true) cacc' H' → (∀ j r, lookR cacc' j = some r → j ∈ ci) → (∀ j r r0, lookR cacc' j = some r → lookR accP j = some r0 → r = r0) → (∀ j, j ∈ ci → (listed.setIfInBounds i true).getD j false = true → ∃ r, lookR cacc' j = some r) → (∀ j r, lookR cacc' j = some r → (listed.setIfInBounds i true).getD j false = true) → K (a.put o.dst v) w' := by
    intro v J' L' H' cacc' w' r hle hst hH hv hri hrj hpl hkeys hprom hproL hfresh
    refine hK cacc' H' J' L' (fun j => if j = i then v else vs j) _ _ ⟨inv.head.set hr hin, inv.le.trans hle, inv.im0.trans hle, hst, hH, hpl, hkeys, hfresh, hprom, hproL, fun j hj hl => ?_, ?_, ?_, fun j d' hj hl hd' => ?_, fun t u hu hno => ?_⟩
    · by_cases hji : j = i
      · subst hji
        exact ⟨r, hri, by simpa using hv⟩
      · rw [hput j hji] at hl
        obtain ⟨q, h1, h2⟩ := inv.val j hj hl
        exact ⟨q, (hrj j hji).trans h1, by simpa [hji] using h2.mono hle⟩
    · rw [put_defers]; exact inv.defers
    · rw [put_size]; exact inv.size
    · by_cases hji : j = i
      · subst hji
        have hod : o.dst = some d' := by rw [ho] at hd'; exact hd'
        rw [hod, put_eq _ _ (by rw [inv.size]; exact hdN d' hod), if_pos rfl]
      · rw [hput j hji] at hl
        rw [put_ne _ _ (hdne j hj hji d' hd'), if_neg hji]
        exact inv.tmpI j d' hj hl hd'
    · rw [put_ne _ _ (fun hod => hno i hin (getD_set_true' hilt) (by rw [ho]; exact hod))]
      refine inv.tmpO t u hu fun j hj hl => hno j hj ?_
      by_cases hji : j = i
      · subst hji; rw [hiun] at hl; cases hl
      · rw [hput j hji]; exact hl
  -- the guard
  have hgrd : ∀ gi want, o.guard = some (gi, want) → ∀ b, lookR accP gi = some (.v b) → yielded l.toArray a.tmps gi = some b := fun gi want hg b hb => by
    rw [hg] at hguard
    simp only [Bool.and_eq_true] at hguard
    have hgn : gi < n := by simpa [Nat.blt_eq] using hguard.1.1
    have hgl := hlisted gi hguard.1.2
    obtain ⟨r, h1, h2⟩ := inv.val gi hgn hgl
    have hr2 : r = .v b := by
      rw [lookR_append] at h1
      cases hc : lookR cacc gi with
      | some q =>
        rw [hc] at h1
        cases h1
        exact inv.prom gi _ _ hc hb
      | none =>
        rw [hc] at h1
        simp only at h1
        rw [hb] at h1
        exact (Option.some.inj h1).symm
    subst hr2
    obtain ⟨cs, rfl, hvs⟩ := h2
    obtain ⟨dg, hdg0⟩ := Option.isSome_iff_exists.1 hguard.2
    obtain ⟨og, hog, hdg⟩ := Option.bind_eq_some_iff.1 hdg0
    have htg := inv.tmpI gi dg hgn hgl (by rw [hog]; exact hdg)
    rw [hvs] at htg
    unfold yielded
    rw [hog]
    simp only [Option.bind_some, hdg, htg]
    rfl
  unfold wpOp
  simp only [ho]
  by_cases hic : i ∈ ci
  · obtain ⟨hgn, hop⟩ := hstep listed cacc H i o s inv.pl hic hol hs hiun hlisted hilt
    have hcn : lookR cacc i = none := by
      cases hc : lookR cacc i with
      | none => rfl
      | some q => exact absurd (inv.fresh i q hc) (by rw [hiun]; decide)
    have hself : ∀ r, lookR (((i, r) :: cacc) ++ accP) i = some r := fun r => by rw [lookR_append, lookR_cons, if_pos rfl]
    have hoth : ∀ r j, j ≠ i → lookR (((i, r) :: cacc) ++ accP) j = lookR (cacc ++ accP) j := fun r j hj => by rw [lookR_append, lookR_append, lookR_cons, if_neg (Ne.symm hj)]
    have hkeys : ∀ r, ∀ j q, lookR ((i, r) :: cacc) j = some q → j ∈ ci := fun r j q hq => by
      rw [lookR_cons] at hq
      by_cases e : i = j
      · subst e; exact hic
      · rw [if_neg e] at hq; exact inv.keys j q hq
    have hfresh : ∀ r, ∀ j q, lookR ((i, r) :: cacc) j = some q → (listed.setIfInBounds i true).getD j false = true := fun r j q hq => by
      rw [lookR_cons] at hq
      by_cases e : i = j
      · subst e; exact getD_set_true' hilt
      · rw [if_neg e] at hq; rw [hput j (Ne.symm e)]; exact inv.fresh j q hq
    have hprom : ∀ r, (∀ r0, lookR accP i = some r0 → r = r0) → ∀ j q r0, lookR ((i, r) :: cacc) j = some q → lookR accP j = some r0 → q = r0 := fun r hr0 j q r0 hq h0 => by
      rw [lookR_cons] at hq
      by_cases e : i = j
      · subst e; rw [if_pos rfl] at hq; cases hq; exact hr0 r0 h0
      · rw [if_neg e] at hq; exact inv.prom j q r0 hq h0
    have hproL : ∀ r, ∀ j, j ∈ ci → (listed.setIfInBounds i true).getD j false = true → ∃ q, lookR ((i, r) :: cacc) j = some q := fun r j hj hl => by
      by_cases e : i = j
      · subst e; exact ⟨r, by rw [lookR_cons, if_pos rfl]⟩
      · rw [hput j (Ne.symm e)] at hl
        obtain ⟨q, hq⟩ := inv.proL j hj hl
        exact ⟨q, by rw [lookR_cons, if_neg e]; exact hq⟩
    rw [if_pos (by simp [Region.wanted, hgn])]
    refine .inl (Yld.wp ((hop _ J L hR a w hfits inv.st).mono ?_))
    rintro v w' ⟨J', L', hst, hle, r, H', h1, h2, h3, h4⟩
    exact fin v J' L' H' ((i, r) :: cacc) w' r hle hst h2 h1 (hself r) (hoth r) h4 (hkeys r) (hprom r h3) (hproL r) (hfresh r)
  · obtain ⟨r, hri, hd⟩ := hp i o s hin hic hol hs
    have hcn : ∀ j, j ∉ ci → lookR cacc j = none := fun j hj => by
      cases hc : lookR cacc j with
      | none => rfl
      | some q => exact absurd (inv.keys j q hc) hj
    have hself : lookR (cacc ++ accP) i = some r := by rw [lookR_append, hcn i hic]; exact hri
    have hRq : RSt C J L (envOf σ0 accP s (opTmps o)) H (mkEnv g (opTmps o)) := hR.sub fun t b hb => by
      obtain ⟨hmem, hb2⟩ := envOf_look hb
      refine envOf_get ?_ hmem
      cases hsrc : srcOf s t with
      | none => simp only [hsrc] at hb2 ⊢; exact hb2
      | some j =>
        simp only [hsrc] at hb2 ⊢
        rw [lookR_append]
        cases hc : lookR cacc j with
        | none => exact hb2
        | some q => exact congrArg some (inv.prom j q b hc hb2)
    have hproL : ∀ j, j ∈ ci → (listed.setIfInBounds i true).getD j false = true → ∃ q, lookR cacc j = some q := fun j hj hl => by
      have : j ≠ i := by rintro rfl; exact hic hj
      rw [hput j this] at hl; exact inv.proL j hj hl
    have hfresh : ∀ j q, lookR cacc j = some q → (listed.setIfInBounds i true).getD j false = true := fun j q hq => by
      have : j ≠ i := by rintro rfl; exact hic (inv.keys j q hq)
      rw [hput j this]; exact inv.fresh j q hq
    obtain ⟨Hp, hHp⟩ := hfam _ _ _ i inv.pl hin hic hiun
    have hdH := hd Hp
    rw [← hHp] at hdH
    unfold dutyA at hdH
    have run : ∀ (c : AV), OpP P N C o (envOf σ0 accP s (opTmps o)) H (fun r' => r' = c) → (∀ J' u, RepV J' c u → RepV J' r u) → o.wp P a w K Q' := fun c h hcr => by
      refine Yld.wp ((h _ J L hRq a w hfits inv.st.mem).mono ?_)
      rintro v w' ⟨J', X, hc, hle, hn, hm, hX, rfl, r', h1, rfl⟩
      have hst := (inv.st.step hc hle hn hm hX)
      rw [List.nil_append] at hst
      exact fin v J' L H cacc w' r hle hst (inv.heap.mono hle) (hcr _ _ h1) hself (fun j hj => rfl) (hpure _ _ _ i inv.pl hic) inv.keys inv.prom hproL hfresh
    cases hg : o.guard with
    | none =>
      rw [hg] at hdH
      rw [if_pos (by simp [Region.wanted, hg])]
      exact .inl (run r hdH (fun _ _ h => h))
    | some gw =>
      obtain ⟨gi, want⟩ := gw
      rw [hg] at hdH
      obtain ⟨b, c, hb, rfl, h2⟩ := hdH
      have hy := hgrd gi want hg b hb
      by_cases hbw : b = want
      · rw [if_pos (by simp [Region.wanted, hg, hy, hbw])]
        exact .inl (run c (h2 hbw) (fun _ _ h _ => h))
      · have hwf : ¬ Region.wanted o (yielded l.toArray a.tmps) = true := by simpa [Region.wanted, hg, hy] using hbw
        rw [if_neg hwf]
        exact fin undef J L H cacc w (.opt (b == want) c) (Le.refl J) inv.st inv.heap (fun hc => absurd (by simpa using hc) hbw) hself (fun j hj => rfl) (hpure _ _ _ i inv.pl hic) inv.keys inv.prom hproL hfresh
theorem wpAny_G {Q' : Exit → Act → World → Prop} (h0 : RSt C I L0 σ0 H0 ρ0) (hN : dstOk N l = true) (hback : edgesBack l.toArray = true) (hok : ∀ i, i < n → opOkC l.toArray n ss i = true) (hdst : dstsOkC l.toArray n = true)
    (hfam : ∀ listed cacc H i, Inv listed cacc H → i < n → i ∉ ci → listed.getD i false = false → ∃ q, H = HT i q) (hpure : ∀ listed cacc H i, Inv listed cacc H → i ∉ ci → Inv (listed.setIfInBounds i true) cacc H)
    (hstep : ∀ listed cacc H i o s, Inv listed cacc H → i ∈ ci → l[i]? = some o → ss[i]? = some s → listed.getD i false = false → (∀ j, Region.waitsFor .any l.toArray i j = true → listed.getD j false = true) → i < listed.size →
      o.guard = none ∧ OpH P C N o (envOf σ0 (cacc ++ accP) s (opTmps o)) H (fun r H' => (∀ r0, lookR accP i = some r0 → r = r0) ∧ Inv (listed.setIfInBounds i true) ((i, r) :: cacc) H'))
    (hp : ∀ i o s, i < n → i ∉ ci → l[i]? = some o → ss[i]? = some s → ∃ r, lookR accP i = some r ∧ dutyQ P N C σ0 (HT i) accP o s r)
    (hle : n ≤ l.length) (htail : n = l.length ∨ (Region.sinkB .any l.toArray n = true ∧ Region.chainB .any l.toArray n = true)) (hseq : Region.seqB .any l.toArray (l.length - n) n (headAll l.length n) = true)
    (hfin : ∀ listed cacc H J L vs a w, GInv P C N n l ci σ0 accP Inv ρ0 I listed cacc H J L vs a w → (∀ j, j < n → listed.getD j false = true) → wpList P l.toArray Q' (l.drop n) a w) :
    ∀ (m : Nat) (listed : Array Bool) cacc H J L vs a w, GInv P C N n l ci σ0 accP Inv ρ0 I listed cacc H J L vs a w → unl listed n = m → wpAny P .any l.toArray Q' (m + (l.length - n)) listed a w
  | 0, listed, cacc, H, J, L, vs, a, w, inv, hm => by
    have hsz : listed.size = l.length := by simpa using inv.head.size
    have hall : ∀ j, j < n → listed.getD j false = true := fun j hj => getD_both' (by omega) (unl_zero hm j hj)
    have heq : listed = headAll l.length n := by
      refine Array.ext (by simp [headAll, hsz]) fun j h1 h2 => ?_
      have e1 : (headAll l.length n)[j]'h2 = Nat.blt j n := by simp [headAll]
      rw [e1]
      by_cases hj : j < n
      · have := hall j hj
        simp [h1] at this
        rw [this]
        exact (Nat.blt_eq ▸ hj : Nat.blt j n = true).symm
      · have := inv.head.tail j (by omega) (by simp; omega)
        simp [h1] at this
        rw [this]
        cases hb : Nat.blt j n
        · rfl
        · exact absurd (Nat.blt_eq ▸ hb : j < n) hj
    have hw := hfin listed cacc H J L vs a w inv hall
    have h2 := wpAny_of_seq (md := .any) (Q' := Q') (l.drop n) n listed a w (fun j => by simp [List.getElem?_drop]) (by rw [heq]; simpa using hseq) hw
    simpa using h2
  | m + 1, listed, cacc, H, J, L, vs, a, w, inv, hm => by
    have hsz : listed.size = l.length := by simpa using inv.head.size
    obtain ⟨i, hin, hi, hlt⟩ := unl_pos hm
    have hr := ready_of_least hback (by simpa using inv.head.size) hi hlt
    rw [show m + 1 + (l.length - n) = (m + (l.length - n)) + 1 by omega]
    refine ⟨fun h0 => (by rw [h0] at hr; cases hr), fun j hj => ?_⟩
    have hjn : j < n := by
      rcases Nat.lt_or_ge j n with h | h
      · exact h
      · rcases htail with ht | ⟨hs, hc⟩
        · obtain ⟨_, o, ho, _⟩ := mem_ready.1 hj
          have := (Array.getElem?_eq_some_iff.1 ho).1
          simp at this
          omega
        · have hnl : n < l.toArray.size := by
            obtain ⟨_, o, ho, _⟩ := mem_ready.1 hj
            have := (Array.getElem?_eq_some_iff.1 ho).1
            omega
          exact absurd hj (tail_waits hs hc hnl inv.head _ i rfl hin hi j h)
    refine inv.step h0 hN hok hdst hfam hpure hstep hp hj hjn fun cacc' H' J' L' vs' a' w' inv' => ?_
    refine wpAny_G h0 hN hback hok hdst hfam hpure hstep hp hle htail hseq hfin m _ cacc' H' J' L' vs' a' w' inv' ?_
    have hu := (mem_ready.1 hj).1
    have := unl_set hu hjn
    omega
end
theorem wpA.drawG' {P : Program} {C : Ctx} {N : Nat} {Q : Exit → AEnv → AHeap → Prop} {σ : AEnv} {H : AHeap} {id : Nat} {l : List Oper} {ι : Type 1} (HT : Nat → ι → AHeap) (hm : P.follows .mixedOrders = true) (n : Nat) (ss : List (List (Nat × Nat))) (ci : List Nat)
    (hN : dstOk N l = true) (hB : phiOkC l.toArray n ss = true) (full : List (Nat × AV)) (Inv : Array Bool → List (Nat × AV) → AHeap → Prop) (h00 : Inv (Array.replicate l.toArray.size false) [] H)
    (hp : ∀ i o s, i < n → i ∉ ci → l[i]? = some o → ss[i]? = some s → ∃ r, lookR full i = some r ∧ dutyQ P N C σ (HT i) full o s r)
    (hfam : ∀ listed cacc H i, Inv listed cacc H → i < n → i ∉ ci → listed.getD i false = false → ∃ q, H = HT i q) (hpure : ∀ listed cacc H i, Inv listed cacc H → i ∉ ci → Inv (listed.setIfInBounds i true) cacc H)
    (hstep : ∀ listed cacc H i o s, Inv listed cacc H → i ∈ ci → l[i]? = some o → ss[i]? = some s → listed.getD i false = false → (∀ j, Region.waitsFor .any l.toArray i j = true → listed.getD j false = true) → i < listed.size →
      o.guard = none ∧ OpH P C N o (envOf σ (cacc ++ full) s (opTmps o)) H (fun r H' => (∀ r0, lookR full i = some r0 → r = r0) ∧ Inv (listed.setIfInBounds i true) ((i, r) :: cacc) H'))
    (hfinal : ∀ listed cacc H', Inv listed cacc H' → (∀ j, j < n → listed.getD j false = true) → wpB P C N l.toArray Q (l.drop n) (finA (cacc ++ full) (l.take n) 0 σ) H') :
    wpA P C N (.region id l.toArray true) Q σ H := fun ρ I L hs a w ha hst => by
  have hB0 := hB
  simp only [phiOkC, Bool.and_eq_true, Bool.or_eq_true] at hB
  obtain ⟨⟨⟨⟨⟨hle, hback⟩, hok⟩, hdst⟩, htail⟩, hseq⟩ := hB
  have hle' : n ≤ l.length := by simpa using Nat.le_of_ble_eq_true hle
  have hok' : ∀ i, i < n → opOkC l.toArray n ss i = true := fun i hi => List.all_eq_true.1 hok i (List.mem_range.2 hi)
  have hs' : St C I L { w with drawn := w.drawn + 1 } := ⟨⟨hst.mem.im, hst.mem.loc, hst.mem.sep, hst.mem.nodup⟩, ⟨hst.chg.os, hst.chg.tape, hst.chg.output, hst.chg.size, hst.chg.block⟩, hst.own, hst.im0, hst.new⟩
  refine wp_region_any hm ?_
  have inv0 : GInv P C N n l ci σ full Inv ρ I (Array.replicate l.toArray.size false) [] H I L (fun _ => undef) a { w with drawn := w.drawn + 1 } := by
    have hnl : ∀ j, (Array.replicate l.toArray.size false).getD j false = true → False := fun j hl => by rw [getD_replicate_false] at hl; cases hl
    refine ⟨⟨by simp, fun j oj _ hl => (hnl j hl).elim, fun t _ ht => getD_in (by simpa using ht) (getD_replicate_false _ _)⟩, Le.refl _, hs.im0, hs', hs.heap, h00, fun j r hj => by simp [lookR] at hj, fun j r hj => by simp [lookR] at hj, fun j r r0 hj => by simp [lookR] at hj, fun j _ hl => (hnl j hl).elim, fun j _ hl => (hnl j hl).elim, ha.defers, ha.size, fun j d _ hl => (hnl j hl).elim, fun t v hv _ => ha.tmp t v hv⟩
  have hunl : unl (Array.replicate l.toArray.size false) n = n := by
    have key : ∀ k, k ≤ l.toArray.size → unl (Array.replicate l.toArray.size false) k = k := by
      intro k
      induction k with
      | zero => intro _; rfl
      | succ k ih =>
        intro hk
        rw [unl, ih (by omega), if_pos (getD_in (by simp at hk ⊢; omega) (getD_replicate_false _ _))]
    exact key n (by simpa using hle')
  have hmain := wpAny_G (Q' := liftQ C N (qA C Q)) hs hN hback hok' hdst hfam hpure hstep hp hle'
    (by rcases htail with h | h
        · exact .inl (by simpa using h)
        · exact .inr h) (by simpa using hseq)
    (fun listed cacc H' J L' vs a' w' inv hall => by
      have hpl := hfinal listed cacc H' inv.pl hall
      have hNd : dstOk N (l.drop n) = true := by
        simp only [dstOk, List.all_eq_true] at hN ⊢
        exact fun o ho => hN o (List.mem_of_mem_drop ho)
      have hR : RSt C J L' σ H' ρ := ⟨fun t b hb => by obtain ⟨u, h1, h2⟩ := hs.env t b hb; exact ⟨u, h1, h2.mono inv.le⟩, inv.heap, inv.im0⟩
      have hget : ∀ i o, (l.take n)[i]? = some o → i < n ∧ l[i]? = some o := fun i o ho => by
        have h1 := (List.getElem?_eq_some_iff.1 ho).1
        have hin : i < n := by rw [List.length_take] at h1; omega
        rw [List.getElem?_take, if_pos hin] at ho
        exact ⟨hin, ho⟩
      refine hpl (finV vs (l.take n) 0 ρ) J L' (finV_st (l.take n) 0 σ ρ hR fun i o ho => ?_) hNd a' w' (finV_fits inv.defers inv.size (l.take n) 0 ρ (fun i o d ho hdd => ?_) fun t v hv hno => inv.tmpO t v hv fun j hj _ hdj => ?_) inv.st
      · obtain ⟨hin, _⟩ := hget i o ho
        rw [Nat.zero_add]
        exact inv.val i hin (hall i hin)
      · obtain ⟨hin, ho2⟩ := hget i o ho
        rw [Nat.zero_add]
        exact inv.tmpI i d hin (hall i hin) (by simp [ho2, hdd])
      · have hjl : j < l.length := by omega
        have : (l.take n)[j]? = some l[j] := by rw [List.getElem?_take, if_pos hj]; exact List.getElem?_eq_getElem hjl
        refine hno j l[j] this ?_
        simpa [hjl] using hdj)
    n _ _ _ _ _ _ _ _ inv0 hunl
  rw [show n + (l.length - n) = l.toArray.size by simp; omega] at hmain
  exact hmain
theorem wpA.drawG {P : Program} {C : Ctx} {N : Nat} {Q : Exit → AEnv → AHeap → Prop} {σ : AEnv} {H : AHeap} {id : Nat} {l : List Oper} {ι : Type 1} (HT : ι → AHeap) (hm : P.follows .mixedOrders = true) (n : Nat) (ss : List (List (Nat × Nat))) (ci : List Nat)
    (hN : dstOk N l = true) (hB : phiOkC l.toArray n ss = true) (full : List (Nat × AV)) (Inv : Array Bool → List (Nat × AV) → AHeap → Prop) (h00 : Inv (Array.replicate l.toArray.size false) [] H)
    (hp : ∀ i o s, i < n → i ∉ ci → l[i]? = some o → ss[i]? = some s → ∃ r, lookR full i = some r ∧ dutyQ P N C σ HT full o s r)
    (hfam : ∀ listed cacc H, Inv listed cacc H → ∃ q, H = HT q) (hpure : ∀ listed cacc H i, Inv listed cacc H → i ∉ ci → Inv (listed.setIfInBounds i true) cacc H)
    (hstep : ∀ listed cacc H i o s, Inv listed cacc H → i ∈ ci → l[i]? = some o → ss[i]? = some s → listed.getD i false = false → (∀ j, Region.waitsFor .any l.toArray i j = true → listed.getD j false = true) → i < listed.size →
      o.guard = none ∧ OpH P C N o (envOf σ (cacc ++ full) s (opTmps o)) H (fun r H' => (∀ r0, lookR full i = some r0 → r = r0) ∧ Inv (listed.setIfInBounds i true) ((i, r) :: cacc) H'))
    (hfinal : ∀ listed cacc H', Inv listed cacc H' → (∀ j, j < n → listed.getD j false = true) → wpB P C N l.toArray Q (l.drop n) (finA (cacc ++ full) (l.take n) 0 σ) H') :
    wpA P C N (.region id l.toArray true) Q σ H :=
  wpA.drawG' (fun _ => HT) hm n ss ci hN hB full Inv h00 hp (fun listed cacc H i h _ _ _ => hfam listed cacc H h) hpure hstep hfinal
end Go.Ab
/- Regions that draw their order: pure operations, allocations that wait for nothing, and behind them a chain. -/
set_option linter.unusedVariables false
namespace Go.Ab
open Go.Fl Go.RowKit
open Rep (rep)
/-- A type whose zero value is laid. -/
structure AT where
  α : Type
  r : Rep α
  d : α
def AT.res (t : AT) (b : Nat) : AV := @AV.ln t.α t.α t.r t.r (ptr b 0) (@Lens.id t.α t.r)
def AT.blk (t : AT) (b : Nat) : Bool × Blk := (true, @Blk.ob t.α t.r (ptr b 0) t.d)
def hole0 : Bool × Blk := (true, .fz undef .any)
def hA (listed : Nat → Bool) (ws : Nat → Nat) (al : List (Nat × AT)) : AHeap := al.map fun p => bif listed p.1 then p.2.blk (ws p.1) else hole0
/-- An empty chunk in front. -/
theorem wpA.padE {P : Program} {C : Ctx} {N : Nat} {Q : Exit → AEnv → AHeap → Prop} {σ : AEnv} {H : AHeap} {c : Code} (k : wpA P C N c Q σ (hole0 :: H)) : wpA P C N c Q σ H := fun ρ I L hs =>
  wpS.pad (k ρ I ([] :: L) ⟨hs.env, ⟨[], L, rfl, ⟨⟨rfl, trivial⟩, fun _ p hp => by cases hp⟩, hs.heap⟩, hs.im0⟩)
theorem flatten_move {L : Lh} {i : Nat} (h : L[i]? = some []) (X : List (Nat × Obj)) : (L.set i X).flatten.Perm (X ++ L.flatten) := by
  obtain ⟨h1, h2⟩ := split_at L i [] h X
  rw [h1, h2, List.nil_append, ← List.append_assoc, ← List.append_assoc]
  exact List.Perm.append_right _ List.perm_append_comm
theorem stPerm {C : Ctx} {I : Im} {L M : Lh} {w : World} (h : St C I L w) (hp : M.flatten.Perm L.flatten) : St C I M w :=
  ⟨⟨h.mem.im, fun p hq => h.mem.loc p (hp.mem_iff.1 hq), fun p hq => h.mem.sep p (hp.mem_iff.1 hq), (hp.map Prod.fst).nodup_iff.2 h.mem.nodup⟩, h.chg, fun p hq => h.own p (hp.mem_iff.1 hq), h.im0, h.new⟩
/-- A new chunk is laid into an empty place. -/
theorem OpH.into {P : Program} {C : Ctx} {N : Nat} {o : Oper} {σ : AEnv} {H : AHeap} {K : AV → AHeap → Prop} {F : Bool × Blk → AHeap} (hh : Hole H hole0 F)
    (h : OpH P C N o σ H (fun r H' => ∃ B, H' = B :: H ∧ K r (F B))) : OpH P C N o σ H K := fun ρ I L hs a w ha hst => by
  refine (h ρ I L hs a w ha hst).mono ?_
  rintro v w' ⟨J, L', q1, q2, r, H', q3, q4, B, rfl, q5⟩
  obtain ⟨X, R, rfl, h1, h2⟩ := q4
  obtain ⟨j, Y, h3, h4, h5⟩ := hh.get h2
  have hY : Y = [] := h4.1.1
  subst hY
  exact ⟨J, R.set j X, stPerm q1 (flatten_move h3 X), q2, r, F B, q3, h5 J B X (Le.refl J) h1, q5⟩
def rA (ws : Nat → Nat) (al : List (Nat × AT)) : List (Nat × AV) := al.map fun p => (p.1, p.2.res (ws p.1))
def upd (ws : Nat → Nat) (i b : Nat) : Nat → Nat := fun j => if j = i then b else ws j
theorem lookR_rA {ws : Nat → Nat} : ∀ {al : List (Nat × AT)} {p : Nat × AT}, (al.map Prod.fst).Nodup → p ∈ al → lookR (rA ws al) p.1 = some (p.2.res (ws p.1))
  | q :: al, p, hn, hp => by
    rw [List.map_cons, List.nodup_cons] at hn
    show lookR ((q.1, q.2.res (ws q.1)) :: rA ws al) p.1 = _
    rw [lookR_cons]
    rcases List.mem_cons.1 hp with rfl | hp
    · rw [if_pos rfl]
    · rw [if_neg (fun e => hn.1 (by rw [e]; exact List.mem_map_of_mem hp))]
      exact lookR_rA hn.2 hp
theorem lookR_rA_none {ws : Nat → Nat} : ∀ {al : List (Nat × AT)} {j : Nat}, j ∉ al.map Prod.fst → lookR (rA ws al) j = none
  | [], j, _ => rfl
  | q :: al, j, h => by
    show lookR ((q.1, q.2.res (ws q.1)) :: rA ws al) j = _
    rw [List.map_cons, List.mem_cons, not_or] at h
    rw [lookR_cons, if_neg (fun e => h.1 e.symm)]
    exact lookR_rA_none h.2
theorem lookR_rA_congr {ws ws' : Nat → Nat} {j : Nat} (h : ws j = ws' j) : ∀ {al : List (Nat × AT)}, lookR (rA ws al) j = lookR (rA ws' al) j
  | [] => rfl
  | q :: al => by
    show lookR ((q.1, q.2.res (ws q.1)) :: rA ws al) j = lookR ((q.1, q.2.res (ws' q.1)) :: rA ws' al) j
    rw [lookR_cons, lookR_cons]
    by_cases e : q.1 = j
    · subst e; rw [if_pos rfl, if_pos rfl, h]
    · rw [if_neg e, if_neg e]; exact lookR_rA_congr h
theorem hA_cons {f : Nat → Bool} {ws : Nat → Nat} {q : Nat × AT} {al : List (Nat × AT)} : hA f ws (q :: al) = (bif f q.1 then q.2.blk (ws q.1) else hole0) :: hA f ws al := rfl
theorem hA_congr {f g : Nat → Bool} {ws ws' : Nat → Nat} : ∀ {al : List (Nat × AT)}, (∀ p ∈ al, f p.1 = g p.1 ∧ ws p.1 = ws' p.1) → hA f ws al = hA g ws' al
  | [], _ => rfl
  | q :: al, h => by
    have h1 := h q List.mem_cons_self
    show (bif f q.1 then q.2.blk (ws q.1) else hole0) :: hA f ws al = (bif g q.1 then q.2.blk (ws' q.1) else hole0) :: hA g ws' al
    rw [h1.1, h1.2, hA_congr fun p hp => h p (List.mem_cons_of_mem _ hp)]
theorem hA_all {f : Nat → Bool} {ws : Nat → Nat} {al : List (Nat × AT)} (h : ∀ p ∈ al, f p.1 = true) : hA f ws al = al.map fun p => p.2.blk (ws p.1) :=
  List.map_congr_left fun p hp => by rw [h p hp]; rfl
theorem hA_hole {f : Nat → Bool} {ws : Nat → Nat} {H0 : AHeap} {p : Nat × AT} : ∀ {al : List (Nat × AT)}, (al.map Prod.fst).Nodup → p ∈ al → f p.1 = false →
    ∃ F, Hole (hA f ws al ++ H0) hole0 F ∧ ∀ b, F (p.2.blk b) = hA (fun j => if j = p.1 then true else f j) (upd ws p.1 b) al ++ H0
  | q :: al, hn, hp, hf => by
    rw [List.map_cons, List.nodup_cons] at hn
    rcases List.mem_cons.1 hp with rfl | hp
    · refine ⟨fun X => X :: (hA f ws al ++ H0), ?_, fun b => ?_⟩
      · show Hole ((bif f p.1 then p.2.blk (ws p.1) else hole0) :: (hA f ws al ++ H0)) hole0 _
        rw [hf]; exact .z
      · rw [hA_cons, List.cons_append, if_pos rfl]
        show p.2.blk b :: (hA f ws al ++ H0) = _
        rw [hA_congr (g := fun j => if j = p.1 then true else f j) (ws' := upd ws p.1 b) fun q hq => ?_]
        · simp [upd]
        · have : q.1 ≠ p.1 := fun e => hn.1 (by rw [← e]; exact List.mem_map_of_mem hq)
          simp [upd, this]
    · obtain ⟨F, h1, h2⟩ := hA_hole (H0 := H0) (ws := ws) hn.2 hp hf
      have hne : q.1 ≠ p.1 := fun e => hn.1 (by rw [e]; exact List.mem_map_of_mem hp)
      refine ⟨fun X => (bif f q.1 then q.2.blk (ws q.1) else hole0) :: F X, .s h1, fun b => ?_⟩
      rw [hA_cons, List.cons_append, if_neg hne]
      show _ :: F (p.2.blk b) = _
      rw [h2 b]
      simp [upd, hne]
def chainOkA (ops : Array Oper) (n : Nat) (ss : List (List (Nat × Nat))) (ks ci : List Nat) : Bool :=
  chainOk ops n ss ci && ci.all (fun i => match ops[i]? with | some o => o.guard.isNone | none => false) && ks.all (fun i => Nat.blt i n && !(ci.contains i)) &&
  (match ci with | i :: _ => ks.all (fun j => Region.waitsFor .any ops i j) | [] => true)
def InvA (P : Program) (C : Ctx) (N : Nat) {ι : Type 1} (HT : ι → AHeap) (σ : AEnv) (full : List (Nat × AV)) (F : List (Nat × AV) → AHeap → Prop) (cl : List (Nat × Oper × List (Nat × Nat))) (al : List (Nat × AT)) (ci : List Nat) (H0 : AHeap)
    (listed : Array Bool) (cacc : List (Nat × AV)) (H : AHeap) : Prop :=
  ((∀ i ∈ ci, listed.getD i false = false) ∧ ∃ ws, (∀ j, lookR cacc j = if listed.getD j false = true then lookR (rA ws al) j else none) ∧ H = hA (fun j => listed.getD j false) ws al ++ H0) ∨
  ((∀ p ∈ al, listed.getD p.1 false = true) ∧ ∃ k c1, k ≤ ci.length ∧ (∀ m i, ci[m]? = some i → (listed.getD i false = true ↔ m < k)) ∧ (∀ j, lookR cacc j = lookR c1 j) ∧ planK P C N σ HT full F (cl.drop k) c1 H)
section
variable {P : Program} {C : Ctx} {N n : Nat} {ι : Type 1} {HT : ι → AHeap} {σ : AEnv} {full : List (Nat × AV)} {F : List (Nat × AV) → AHeap → Prop} {l : List Oper} {ss : List (List (Nat × Nat))} {al : List (Nat × AT)} {ci : List Nat} {H0 : AHeap} {listed : Array Bool} {cacc : List (Nat × AV)} {H : AHeap}
theorem InvA.pure {i : Nat} (h : InvA P C N HT σ full F (clOf l ss ci) al ci H0 listed cacc H) (h1 : i ∉ ci) (h2 : i ∉ al.map Prod.fst) : InvA P C N HT σ full F (clOf l ss ci) al ci H0 (listed.setIfInBounds i true) cacc H := by
  have hput : ∀ j, j ≠ i → (listed.setIfInBounds i true).getD j false = listed.getD j false := fun j hj => getD_set_ne false (Ne.symm hj)
  rcases h with ⟨ha, ws, hb, hc⟩ | ⟨ha, k, c1, hk, hb, hc, hd⟩
  · refine .inl ⟨fun j hj => by rw [hput j (fun e => h1 (e ▸ hj))]; exact ha j hj, ws, fun j => ?_, ?_⟩
    · by_cases e : j = i
      · subst e
        rw [hb j, lookR_rA_none h2]; simp
      · rw [hput j e]; exact hb j
    · rw [hc, hA_congr fun p hp => ⟨?_, rfl⟩]
      exact (hput p.1 (fun e => h2 (e ▸ List.mem_map_of_mem hp))).symm
  · refine .inr ⟨fun p hp => by rw [hput p.1 (fun e => h2 (e ▸ List.mem_map_of_mem hp))]; exact ha p hp, k, c1, hk, fun m j hj => ?_, hc, hd⟩
    rw [hput j (fun e => h1 (e ▸ List.mem_of_getElem? hj))]; exact hb m j hj
theorem InvA.chained {i : Nat} (hch : chainOkA l.toArray n ss (al.map Prod.fst) ci = true) (hplan : ∀ ws, planK P C N σ HT full F (clOf l ss ci) (rA ws al) ((al.map fun p => p.2.blk (ws p.1)) ++ H0))
    (h : InvA P C N HT σ full F (clOf l ss ci) al ci H0 listed cacc H) (hi : i ∈ ci) (hw : ∀ j, Region.waitsFor .any l.toArray i j = true → listed.getD j false = true) :
    (∀ p ∈ al, listed.getD p.1 false = true) ∧ ∃ k c1, k ≤ ci.length ∧ (∀ m i, ci[m]? = some i → (listed.getD i false = true ↔ m < k)) ∧ (∀ j, lookR cacc j = lookR c1 j) ∧ planK P C N σ HT full F ((clOf l ss ci).drop k) c1 H := by
  rcases h with ⟨ha, ws, hb, hc⟩ | h
  · simp only [chainOkA, Bool.and_eq_true] at hch
    obtain ⟨⟨⟨hch, _⟩, hks⟩, hfirst⟩ := hch
    obtain ⟨m, hm⟩ := List.mem_iff_getElem?.1 hi
    have hml : m < ci.length := (List.getElem?_eq_some_iff.1 hm).1
    unfold chainOk at hch
    cases m with
    | succ mj =>
      have h1 := List.all_eq_true.1 hch (mj + 1) (List.mem_range.2 hml)
      simp only [hm, Bool.and_eq_true] at h1
      cases hj : ci[mj]? with
      | none => simp [hj] at h1
      | some j =>
        simp only [hj, Bool.and_eq_true] at h1
        have h2 := hw j h1.2.2
        rw [ha j (List.mem_of_getElem? hj)] at h2; cases h2
    | zero =>
      cases hci : ci with
      | nil => rw [hci] at hml; exact absurd hml (by simp)
      | cons c r =>
        rw [hci] at hm hfirst
        have hci2 : c = i := by simpa using hm
        subst hci2
        have hall : ∀ p ∈ al, listed.getD p.1 false = true := fun p hp => hw p.1 (List.all_eq_true.1 hfirst p.1 (List.mem_map_of_mem hp))
        refine ⟨hall, 0, rA ws al, Nat.zero_le _, fun m j hj => ⟨fun hl => ?_, fun h => by omega⟩, fun j => ?_, ?_⟩
        · rw [ha j (by rw [hci]; exact List.mem_of_getElem? hj)] at hl; cases hl
        · rw [hb j]
          split
          · rfl
          · rename_i hn
            refine (lookR_rA_none fun hj => ?_).symm
            obtain ⟨p, hp, rfl⟩ := List.mem_map.1 hj
            exact hn (hall p hp)
        · rw [List.drop_zero, ← hci, hc, hA_all hall]
          exact hplan ws
  · exact h
theorem InvA.alloc {p : Nat × AT} (hn : (al.map Prod.fst).Nodup) (hp : p ∈ al) (hd : p.1 ∉ ci) (h : InvA P C N HT σ full F (clOf l ss ci) al ci H0 listed cacc H) (hun : listed.getD p.1 false = false) (hlt : p.1 < listed.size) :
    ∃ F', Hole H hole0 F' ∧ ∀ b, InvA P C N HT σ full F (clOf l ss ci) al ci H0 (listed.setIfInBounds p.1 true) ((p.1, p.2.res b) :: cacc) (F' (p.2.blk b)) := by
  have hput : ∀ j, j ≠ p.1 → (listed.setIfInBounds p.1 true).getD j false = listed.getD j false := fun j hj => getD_set_ne false (Ne.symm hj)
  have hset : (listed.setIfInBounds p.1 true).getD p.1 false = true := getD_set_true' hlt
  rcases h with ⟨ha, ws, hb, hc⟩ | ⟨ha, _⟩
  · obtain ⟨F', h1, h2⟩ := hA_hole (f := fun j => listed.getD j false) (ws := ws) (H0 := H0) hn hp hun
    refine ⟨F', hc ▸ h1, fun b => .inl ⟨fun j hj => by rw [hput j (fun e => hd (e ▸ hj))]; exact ha j hj, upd ws p.1 b, fun j => ?_, ?_⟩⟩
    · rw [lookR_cons]
      by_cases e : p.1 = j
      · subst e
        rw [if_pos rfl, if_pos hset, lookR_rA hn hp]
        simp [upd]
      · rw [if_neg e, hput j (Ne.symm e), hb j, lookR_rA_congr (ws := ws) (ws' := upd ws p.1 b) (by simp [upd, Ne.symm e])]
    · rw [h2 b]
      congr 1
      refine hA_congr fun q hq => ⟨?_, rfl⟩
      by_cases e : q.1 = p.1
      · rw [e, if_pos rfl, hset]
      · rw [if_neg e, hput _ e]
  · rw [ha p hp] at hun; cases hun
theorem InvA.chain {i : Nat} {o : Oper} {s : List (Nat × Nat)} (hch : chainOkA l.toArray n ss (al.map Prod.fst) ci = true) (hcl : ∀ (m i : Nat) (o : Oper) (s : List (Nat × Nat)), ci[m]? = some i → l[i]? = some o → ss[i]? = some s → (clOf l ss ci)[m]? = some (i, o, s)) (hnd : ci.Nodup)
    (hplan : ∀ ws, planK P C N σ HT full F (clOf l ss ci) (rA ws al) ((al.map fun p => p.2.blk (ws p.1)) ++ H0))
    (h : InvA P C N HT σ full F (clOf l ss ci) al ci H0 listed cacc H) (hi : i ∈ ci) (hol : l[i]? = some o) (hs : ss[i]? = some s) (hun : listed.getD i false = false) (hw : ∀ j, Region.waitsFor .any l.toArray i j = true → listed.getD j false = true) (hlt : i < listed.size) :
    o.guard = none ∧ OpH P C N o (envOf σ (cacc ++ full) s (opTmps o)) H (fun r H' => (∀ r0, lookR full i = some r0 → r = r0) ∧ InvA P C N HT σ full F (clOf l ss ci) al ci H0 (listed.setIfInBounds i true) ((i, r) :: cacc) H') := by
  obtain ⟨hall, k, c1, hk, hb, hc, hpl⟩ := h.chained hch hplan hi hw
  simp only [chainOkA, Bool.and_eq_true] at hch
  obtain ⟨⟨⟨hch, hgs⟩, hks⟩, _⟩ := hch
  have hg : o.guard = none := by
    have := List.all_eq_true.1 hgs i hi
    simp only [show l.toArray[i]? = some o by simpa using hol] at this
    exact Option.isNone_iff_eq_none.1 this
  have hput : ∀ j, j ≠ i → (listed.setIfInBounds i true).getD j false = listed.getD j false := fun j hj => getD_set_ne false (Ne.symm hj)
  obtain ⟨m, hm⟩ := List.mem_iff_getElem?.1 hi
  have hml : m < ci.length := (List.getElem?_eq_some_iff.1 hm).1
  have hmk : ¬ m < k := fun h => by have := (hb m i hm).2 h; rw [hun] at this; cases this
  have hkm : m ≤ k := by
    unfold chainOk at hch
    cases m with
    | zero => omega
    | succ mj =>
      have h1 := List.all_eq_true.1 hch (mj + 1) (List.mem_range.2 hml)
      simp only [hm, Bool.and_eq_true] at h1
      cases hj : ci[mj]? with
      | none => simp [hj] at h1
      | some j =>
        simp only [hj, Bool.and_eq_true] at h1
        have := (hb mj j hj).1 (hw j h1.2.2)
        omega
  obtain rfl : m = k := by omega
  have hcc := hcl m i o s hm hol hs
  have hdrop : (clOf l ss ci).drop m = (i, o, s) :: (clOf l ss ci).drop (m + 1) := by
    have hlt := (List.getElem?_eq_some_iff.1 hcc).1
    rw [List.drop_eq_getElem_cons hlt]
    congr 1
    rw [List.getElem?_eq_getElem hlt] at hcc
    exact Option.some.inj hcc
  rw [hdrop, planK] at hpl
  replace hpl := hpl.2
  have henv : envOf σ (cacc ++ full) s (opTmps o) = envOf σ (c1 ++ full) s (opTmps o) := envOf_congr (fun t j _ => by rw [lookR_append, lookR_append, hc j]) _
  refine ⟨hg, ?_⟩
  rw [henv]
  have hnext : ∀ r H', planK P C N σ HT full F ((clOf l ss ci).drop (m + 1)) ((i, r) :: c1) H' → InvA P C N HT σ full F (clOf l ss ci) al ci H0 (listed.setIfInBounds i true) ((i, r) :: cacc) H' := fun r H' hq => by
    refine .inr ⟨fun p hp => ?_, m + 1, (i, r) :: c1, by omega, fun m' i' hm' => ?_, fun j => by rw [lookR_cons, lookR_cons, hc j], hq⟩
    · by_cases e : p.1 = i
      · rw [e]; exact getD_set_true' hlt
      · rw [hput _ e]; exact hall p hp
    · by_cases e : i' = i
      · subst e
        have h1 := (List.getElem?_eq_some_iff.1 hm')
        have h2 := (List.getElem?_eq_some_iff.1 hm)
        have : m' = m := (List.getElem_inj (h₀ := h1.1) (h₁ := h2.1) hnd).1 (by rw [h1.2, h2.2])
        subst this
        exact ⟨fun _ => by omega, fun _ => getD_set_true' hlt⟩
      · rw [hput i' e, hb m' i' hm']
        have : m' ≠ m := by rintro rfl; rw [hm] at hm'; exact e (Option.some.inj hm').symm
        omega
  cases hr : lookR full i with
  | none =>
    rw [hg, hr] at hpl
    exact hpl.mono fun r H' hq => ⟨fun r0 h0 => (by cases h0), hnext r H' hq⟩
  | some r0 =>
    rw [hg, hr] at hpl
    exact hpl.mono fun r H' ⟨e, hq⟩ => ⟨fun q h0 => by cases h0; exact e, by subst e; exact hnext _ H' hq⟩
end
theorem finA_congr {a b : List (Nat × AV)} (h : ∀ j, lookR a j = lookR b j) : ∀ (os : List Oper) (k : Nat) (σ : AEnv), finA a os k σ = finA b os k σ
  | [], _, _ => rfl
  | o :: os, k, σ => by
    simp only [finA, h k]
    cases o.dst with
    | none => exact finA_congr h os _ _
    | some d =>
      cases lookR b k with
      | none => exact finA_congr h os _ _
      | some r => exact finA_congr h os _ _
theorem famT_id {G : AHeap} : ∀ (bs : List Bool) (k : Nat), famT bs (G.drop k) (fun j => G.getD j hole0) k = G.drop k
  | [], _ => by simp [famT]
  | b :: bs, k => by
    cases hd : G.drop k with
    | nil => rfl
    | cons B R =>
      have hB : G.getD k hole0 = B := by
        have h1 : G[k]? = some B := by
          have := congrArg (fun l : AHeap => l[0]?) hd
          simpa using this
        simp [List.getD, h1]
      have hR : G.drop (k + 1) = R := by
        rw [← List.drop_drop, hd]; rfl
      show (bif b then G.getD k hole0 else B) :: famT bs R (fun j => G.getD j hole0) (k + 1) = B :: R
      rw [hB, ← hR, famT_id bs (k + 1)]
      cases b <;> rfl
theorem wpA.padN {P : Program} {C : Ctx} {N : Nat} {Q : Exit → AEnv → AHeap → Prop} {σ : AEnv} {H : AHeap} {c : Code} : ∀ {al : List (Nat × AT)}, wpA P C N c Q σ ((al.map fun _ => hole0) ++ H) → wpA P C N c Q σ H
  | [], h => h
  | _ :: al, h => wpA.padN (al := al) (wpA.padE h)
theorem wpA.drawA {P : Program} {C : Ctx} {N : Nat} {Q : Exit → AEnv → AHeap → Prop} {σ : AEnv} {H : AHeap} {id : Nat} {l : List Oper} (bs : List Bool) (al : List (Nat × AT)) (hm : P.follows .mixedOrders = true) (n : Nat) (ss : List (List (Nat × Nat))) (ci : List Nat)
    (hN : dstOk N l = true) (hB : phiOkC l.toArray n ss = true) (hss : Nat.ble n ss.length = true) (hC : chainOkA l.toArray n ss (al.map Prod.fst) ci = true) (hnd : ci.Nodup) (hna : (al.map Prod.fst).Nodup)
    (hal : ∀ p ∈ al, ∀ o, l[p.1]? = some o → o.guard = none ∧ ∀ σ' H', OpH P C N o σ' H' (fun r H'' => ∃ b, r = p.2.res b ∧ H'' = p.2.blk b :: H'))
    (h : chainP P N C σ (fun q : AHeap × (Nat → Bool × Blk) => q.1 ++ famT bs H q.2 0) (al.map Prod.fst ++ ci) (fun accP => ((al.map Prod.fst).all fun i => (lookR accP i).isNone) = true ∧
      ∀ ws : Nat → Nat, planK P C N σ (fun q : AHeap × (Nat → Bool × Blk) => q.1 ++ famT bs H q.2 0) accP (fun cacc H' => wpB P C N l.toArray Q (l.drop n) (finA (cacc ++ accP) (l.take n) 0 σ) H') (clOf l ss ci) (rA ws al) ((al.map fun p => p.2.blk (ws p.1)) ++ H)) (l.take n) ss 0 []) :
    wpA P C N (.region id l.toArray true) Q σ H := .padN (al := al) (by
  have hB0 := hB
  simp only [phiOkC, Bool.and_eq_true, Bool.or_eq_true] at hB
  obtain ⟨⟨⟨⟨⟨hle, hback⟩, hok⟩, hdst⟩, htail⟩, hseq⟩ := hB
  have hle' : n ≤ l.length := by simpa using Nat.le_of_ble_eq_true hle
  have hok' : ∀ i, i < n → opOkC l.toArray n ss i = true := fun i hi => List.all_eq_true.1 hok i (List.mem_range.2 hi)
  have hssl := Nat.le_of_ble_eq_true hss
  obtain ⟨full, ⟨hnone, hF⟩, _, hd⟩ := chainP_elim (l.take n) ss 0 [] (fun j r hj => by simp [lookR] at hj) h
  have hC2 := hC
  simp only [chainOkA, Bool.and_eq_true] at hC2
  obtain ⟨⟨⟨hC', _⟩, hks⟩, _⟩ := hC2
  unfold chainOk at hC'
  have hcin : ∀ i ∈ ci, i < n := fun i hi => by
    obtain ⟨m, hm⟩ := List.mem_iff_getElem?.1 hi
    have h1 := List.all_eq_true.1 hC' m (List.mem_range.2 (List.getElem?_eq_some_iff.1 hm).1)
    simp only [hm, Bool.and_eq_true] at h1
    simpa [Nat.blt_eq] using h1.1
  have hkin : ∀ i ∈ al.map Prod.fst, i < n ∧ i ∉ ci := fun i hi => by
    have h1 := List.all_eq_true.1 hks i hi
    simp only [Bool.and_eq_true, Bool.not_eq_true', List.contains_eq_mem, decide_eq_false_iff_not] at h1
    exact ⟨by simpa [Nat.blt_eq] using h1.1, h1.2⟩
  have hcl := clOf_get (l := l) (ss := ss) ci (fun i hi => ⟨_, _, List.getElem?_eq_getElem (Nat.lt_of_lt_of_le (hcin i hi) hle'), List.getElem?_eq_getElem (Nat.lt_of_lt_of_le (hcin i hi) hssl)⟩)
  have hp : ∀ i o s, i < n → i ∉ al.map Prod.fst ++ ci → l[i]? = some o → ss[i]? = some s → ∃ r, lookR full i = some r ∧ dutyQ P N C σ (fun q : AHeap × (Nat → Bool × Blk) => q.1 ++ famT bs H q.2 0) full o s r := fun i o s hi hic ho hsi => by
    obtain ⟨r, acc', h1, h2, h3⟩ := hd i o s (by rw [List.getElem?_take, if_pos hi]; exact ho) hsi (by simpa using hic)
    rw [Nat.zero_add] at h1 h3
    refine ⟨r, h1, fun H' => ?_⟩
    have hoi := hok' i hi
    unfold opOkC at hoi
    have ho' : l.toArray[i]? = some o := by simpa using ho
    simp only [ho', hsi, Bool.and_eq_true] at hoi
    have hback' : ∀ j, Region.waitsFor .any l.toArray i j = true → j < i := fun j hw => by
      obtain ⟨e, he, hb, heq⟩ := waits_mem ho' hw
      have hil : i < l.toArray.size := (Array.getElem?_eq_some_iff.1 ho').1
      have h4 := List.all_eq_true.1 hback i (List.mem_range.2 hil)
      simp only [ho', Array.all_eq_true_iff_forall_mem] at h4
      have h5 := h4 e he
      rw [hb] at h5
      have : e.on < i := by simpa [Nat.blt_eq] using h5
      omega
    -- sources that are no operand are looked at too
    have henv : ∀ t ∈ opTmps o, ∀ j, srcOf s t = some j → lookR acc' j = lookR full j := fun t ht j hj => by
      have h6 := List.all_eq_true.1 hoi.1 t ht
      unfold readOk at h6
      simp only [hj, Bool.and_eq_true] at h6
      exact h3 j (hback' j h6.2)
    have hdd := h2 H'
    unfold dutyA at hdd ⊢
    have he : ∀ ts, (∀ t ∈ ts, t ∈ opTmps o) → envOf σ acc' s ts = envOf σ full s ts := by
      intro ts
      induction ts with
      | nil => intro _; rfl
      | cons t ts ih =>
        intro hts
        simp only [envOf]
        cases hsrc : srcOf s t with
        | none => simp only [ih (fun u hu => hts u (List.mem_cons_of_mem _ hu))]
        | some j => simp only [henv t (hts t List.mem_cons_self) j hsrc, ih (fun u hu => hts u (List.mem_cons_of_mem _ hu))]
    rw [← he _ (fun t ht => ht)]
    cases hg : o.guard with
    | none => rw [hg] at hdd; exact hdd
    | some p =>
      obtain ⟨g, want⟩ := p
      rw [hg] at hdd
      have h6 := hoi.2
      rw [hg] at h6
      simp only [Bool.and_eq_true] at h6
      simp only at hdd ⊢
      rw [← h3 g (hback' g h6.1.2)]; exact hdd
  refine wpA.drawG (fun q : AHeap × (Nat → Bool × Blk) => q.1 ++ famT bs H q.2 0) hm n ss (al.map Prod.fst ++ ci) hN hB0 full
    (InvA P C N (fun q : AHeap × (Nat → Bool × Blk) => q.1 ++ famT bs H q.2 0) σ full (fun cacc H' => wpB P C N l.toArray Q (l.drop n) (finA (cacc ++ full) (l.take n) 0 σ) H') (clOf l ss ci) al ci H) ?_ hp ?_ ?_ ?_ ?_
  · refine .inl ⟨fun i _ => getD_replicate_false _ _, fun _ => 0, fun j => ?_, ?_⟩
    · rw [if_neg (by rw [getD_replicate_false]; decide)]; rfl
    · congr 1
      exact (List.map_congr_left fun p _ => by simp only [getD_replicate_false]; rfl)
  · rintro listed cacc H' (⟨_, ws, _, rfl⟩ | ⟨_, k, c1, _, _, _, hq⟩)
    · refine ⟨(hA (fun j => listed.getD j false) ws al, fun j => H.getD j hole0), ?_⟩
      have := famT_id (G := H) bs 0
      rw [List.drop_zero] at this
      simp only [this]
    · exact hq.tail
  · exact fun listed cacc H' i hi hni => hi.pure (fun e => hni (List.mem_append_right _ e)) (fun e => hni (List.mem_append_left _ e))
  · intro listed cacc H' i o s hi hic hol hs hun hw hlt
    rcases List.mem_append.1 hic with hk | hc
    · obtain ⟨p, hp, rfl⟩ := List.mem_map.1 hk
      obtain ⟨hg, hop⟩ := hal p hp o hol
      obtain ⟨F', h1, h2⟩ := hi.alloc hna hp (hkin _ hk).2 hun hlt
      refine ⟨hg, OpH.into h1 ((hop _ _).mono fun r H'' ⟨b, hr, hH⟩ => ⟨_, hH, fun r0 h0 => ?_, by rw [hr]; exact h2 b⟩)⟩
      have h3 := List.all_eq_true.1 hnone p.1 hk
      rw [h0] at h3; cases h3
    · exact hi.chain hC hcl hnd hF hc hol hs hun hw hlt
  · intro listed cacc H' hi hall
    have hfin : ∃ c1, (∀ j, lookR cacc j = lookR c1 j) ∧ wpB P C N l.toArray Q (l.drop n) (finA (c1 ++ full) (l.take n) 0 σ) H' := by
      have hlen : ∀ c : List Nat, (clOf l ss c).length ≤ c.length := by
        intro c
        induction c with
        | nil => exact Nat.le_refl _
        | cons i c ih =>
          simp only [clOf]
          split
          · simpa using ih
          · exact Nat.le_succ_of_le ih
      rcases hi with ⟨ha, ws, hb, hc⟩ | ⟨ha, k, c1, hk, hb, hc, hq⟩
      · have hci : ci = [] := by
          cases hci : ci with
          | nil => rfl
          | cons c r =>
            have h1 := hall c (hcin c (by rw [hci]; exact List.mem_cons_self))
            rw [ha c (by rw [hci]; exact List.mem_cons_self)] at h1; cases h1
        refine ⟨rA ws al, fun j => ?_, ?_⟩
        · rw [hb j]
          split
          · rfl
          · rename_i hn
            refine (lookR_rA_none fun hj => hn (hall j (hkin j hj).1)).symm
        · have hq := hF ws
          have e : clOf l ss ci = [] := by
            have := hlen ci
            rw [hci] at this ⊢; rfl
          rw [e, planK] at hq
          rw [hc, hA_all fun p hp => hall p.1 (hkin _ (List.mem_map_of_mem hp)).1]
          exact hq.2
      · have hk' : k = ci.length := by
          rcases Nat.lt_or_ge k ci.length with h | h
          · have := (hb k _ (List.getElem?_eq_getElem h)).1 (hall _ (hcin _ (List.getElem_mem h)))
            omega
          · omega
        rw [hk', List.drop_eq_nil_of_le (hlen ci), planK] at hq
        exact ⟨c1, hc, hq.2⟩
    obtain ⟨c1, h1, h2⟩ := hfin
    rw [finA_congr (b := c1 ++ full) fun j => by rw [lookR_append, lookR_append, h1 j]]
    exact h2)
theorem repH.dropL {n0 : Nat} {I : Im} : ∀ (m : Nat) {H : AHeap} {L : Lh}, repH n0 I H L → repH n0 I (H.drop m) (L.drop m)
  | 0, _, _, h => h
  | m + 1, [], _, h => by simp only [repH] at h; subst h; exact (show repH n0 I [] [] from rfl)
  | m + 1, B :: H, _, h => by obtain ⟨X, R, rfl, h1, h2⟩ := h; exact repH.dropL m h2
theorem mem_dropL {L : Lh} {m : Nat} {p : Nat × Obj} (h : p ∈ (L.drop m).flatten) : p ∈ L.flatten := by
  rw [← List.take_append_drop m L, List.flatten_append]; exact List.mem_append_right _ h
/-- As FunH.intro; what the call has laid and nobody keeps may be forgotten at its end. -/
theorem FunH.introD {G : Gl} {P : Program} {f : FuncId} {fn : Func} {c : Code} {as : List AV} {Hs : List Blk} {post : AV → List Blk → Prop} (hf : P.funcs[f]? = some fn) (hb : fn.body = some c) (hn : (fn.name == "runtime.NumGoroutine") = false)
    (N : Nat) (hN : fn.ntmps = N) (hl : Nat.ble as.length N = true) (σ : AEnv) (hσ : argA as 0 = σ) (H0 : AHeap) (hH : Hs.map (fun B => (false, B)) = H0)
    (h : ∀ C : Ctx, Ctx.Ok C → G.p C.I0 → wpA P C N c (endA P fn C (fun r H => ∃ m : Nat, post r ((H.drop m).map Prod.snd))) σ H0) : FunH G P f as Hs post := fun I L vs hG hvs hL =>
  ⟨⟨fn, hf, hn, by simp [hb]⟩, fun w hm => calls_body hf hb N hN (by rw [hvs.len]; exact hl) hm (M := L.flatten.map Prod.fst) (fun p hp => List.mem_map_of_mem hp)
    ((h ⟨w, L.flatten.map Prod.fst, I⟩ (fun k hk => by
        obtain ⟨p, hp, rfl⟩ := List.mem_map.1 hk
        exact lt_of_get (hm.loc p hp)) hG (argEnv vs 0) I L ⟨by rw [← hσ]; exact hvs.env 0, by rw [← hH]; exact hL.toH, Le.refl I⟩).mono fun e ρ J L hq => endA.q hq)
    fun v J L' w' hs hp => by
      obtain ⟨r, H, h1, h2, m, h3⟩ := hp
      refine ⟨v, J, L'.drop m, rfl, hs.chg, hs.im0, fun b h0 h1 => hs.new b h0 h1, ⟨hs.mem.im, fun p hp => hs.mem.loc p (mem_dropL hp), fun p hp => hs.mem.sep p (mem_dropL hp), ?_⟩, fun p hp => hs.own p (mem_dropL hp), r, _, h1, (h2.dropL m).toK, h3⟩
      have := hs.mem.nodup
      rw [← List.take_append_drop m L', List.flatten_append, List.map_append, List.nodup_append] at this
      exact this.2.1⟩
/-- A nil slice that will grow. -/
theorem wpA.nilOwn {P : Program} {C : Ctx} {N : Nat} {Q : Exit → AEnv → AHeap → Prop} {σ : AEnv} {H : AHeap} {c : Code} (E : TypeId) (α : Type) [r : Rep α] (k : wpA P C N c Q σ ((true, .own E (.slice none 0 0) ([] : List α)) :: H)) : wpA P C N c Q σ H := fun ρ I L hs =>
  wpS.pad (k ρ I ([] :: L) ⟨hs.env, ⟨[], L, rfl, ⟨⟨[], OwnG.nil E _, rfl⟩, fun _ p hp => by cases hp⟩, hs.heap⟩, hs.im0⟩)
theorem wpB.nilOwn {P : Program} {C : Ctx} {N : Nat} {ops : Array Oper} {Q : Exit → AEnv → AHeap → Prop} {os : List Oper} {σ : AEnv} {H : AHeap} (E : TypeId) (α : Type) [r : Rep α] (k : wpB P C N ops Q os σ ((true, .own E (.slice none 0 0) ([] : List α)) :: H)) : wpB P C N ops Q os σ H := fun ρ I L hs =>
  wpL.pad (k ρ I ([] :: L) ⟨hs.env, ⟨[], L, rfl, ⟨⟨[], OwnG.nil E _, rfl⟩, fun _ p hp => by cases hp⟩, hs.heap⟩, hs.im0⟩)
/-- m >> c of 64 bits. -/
theorem OpP.shr64 {P : Program} {C : Ctx} {N : Nat} {σ : AEnv} {H : AHeap} {d : Option Nat} {ty : TypeId} {ps : String} {af : Array Edge} {g : Option (Nat × Bool)} {K : AV → Prop} {x y : Operand} {T T2 : TypeId} {m c : UInt64} (hx : EvA C σ H x (.v m)) (hy : EvA C σ H y (.v c)) (h0 : 0 ≤ c.toNat) (h1 : c.toNat < 64) (k : K (.v (m >>> c))) :
    OpP P N C ⟨d, .binOp .shr T x y T2, ty, ps, af, g⟩ σ H K :=
  .vk k (fun ρ I L hs => OpV.shr64 c.toNat (hx.by64 hs) (hy.by64 hs) rfl h1 ⟨[Fl.u64 (m >>> c)], rfl, by rw [UInt64.ofNat_toNat]; rfl⟩)
theorem OpP.conv64_8 {P : Program} {C : Ctx} {N : Nat} {σ : AEnv} {H : AHeap} {d : Option Nat} {ty : TypeId} {ps : String} {af : Array Edge} {g : Option (Nat × Bool)} {K : AV → Prop} {x : Operand} {S D : TypeId} {ds : TypeDesc} {m : UInt64} (hS : P.underlying S = some ds) (hD : P.underlying D = some (.int .u8)) (hx : EvA C σ H x (.v m)) (k : K (.v m.toUInt8)) :
    OpP P N C ⟨d, .convert S D x, ty, ps, af, g⟩ σ H K :=
  .vk k (fun ρ I L hs => OpV.conv64_8 hS hD (hx.by64 hs) ⟨[Fl.u8 m.toUInt8], rfl, rfl⟩)
end Go.Ab
