import Derived.Test.YtlohppddhbimnaaDoorAbG
/- Rules over typed values: equality, copy, conversions, appending zeros. -/
set_option linter.unusedVariables false
set_option linter.unusedSimpArgs false
namespace Go.Ab
open Go.Fl Go.RowKit
open Rep (rep)
variable {P : Program} {C : Ctx} {N : Nat} {σ : AEnv} {H : AHeap} {K : AV → Prop} {KH : AV → AHeap → Prop} {d : Option Nat} {ty : TypeId} {ps : String} {af : Array Edge} {g : Option (Nat × Bool)}
variable {x y z : Operand} {T T2 E S D U : TypeId}
theorem repL_u8 {I : Im} : ∀ {l : List UInt8} {cs : List Value}, repL I l cs ↔ cs = bytesV l
  | [], cs => by simp [repL, bytesV]
  | x :: l, cs => by
    constructor
    · rintro ⟨c, r, rfl, h1, h2⟩
      rw [repL_u8.1 h2, show c = [Fl.u8 x] from h1]; rfl
    · rintro rfl
      exact ⟨[Fl.u8 x], bytesV l, rfl, rfl, repL_u8.2 rfl⟩
theorem repL_u32 {I : Im} : ∀ {l : List UInt32} {cs : List Value}, repL I l cs ↔ cs = l.map Fl.u32
  | [], cs => by simp [repL]
  | x :: l, cs => by
    constructor
    · rintro ⟨c, r, rfl, h1, h2⟩
      rw [repL_u32.1 h2, show c = [Fl.u32 x] from h1]; rfl
    · rintro rfl
      exact ⟨[Fl.u32 x], l.map Fl.u32, rfl, rfl, repL_u32.2 rfl⟩
theorem EvA.arr8 {n : Nat} {a : Arr n UInt8} (h : EvA C σ H x (.v a)) {ρ : Env} {I : Im} {L : Lh} (hs : RSt C I L σ H ρ) : ev ρ x = some (.agg (bytesV a.l).toArray) := by
  obtain ⟨u, h1, cs, h2, rfl⟩ := h ρ I L hs
  rw [repL_u8.1 h2] at h1
  exact h1
theorem EvA.arr32 {n : Nat} {a : Arr n UInt32} (h : EvA C σ H x (.v a)) {ρ : Env} {I : Im} {L : Lh} (hs : RSt C I L σ H ρ) : ev ρ x = some (.agg (a.l.map Fl.u32).toArray) := by
  obtain ⟨u, h1, cs, h2, rfl⟩ := h ρ I L hs
  rw [repL_u32.1 h2] at h1
  exact h1
theorem dec_arr {n : Nat} {α : Type} [DecidableEq α] (a b : Arr n α) : decide (a.l = b.l) = decide (a = b) := by
  rw [decide_eq_decide]
  exact ⟨Arr.ext, fun h => by rw [h]⟩
theorem OpP.eqlA8 {n : Nat} {a b : Arr n UInt8} (hT : P.underlying T = some (.array n E)) (hs : SizeIs P E 1) (hE : P.underlying E = some (.int .u8)) (hg : P.eqGuardType P.depth T = false) (hx : EvA C σ H x (.v a)) (hy : EvA C σ H y (.v b)) (k : K (.v (decide (a = b)))) :
    OpP P N C ⟨d, .binOp .eql T x y T2, ty, ps, af, g⟩ σ H K :=
  .vk k (fun ρ I L hst => .eqlB hT hs hE hg a.h b.h (hx.arr8 hst) (hy.arr8 hst) ⟨_, rfl, by rw [dec_arr]; rfl⟩)
theorem OpP.neqA8 {n : Nat} {a b : Arr n UInt8} (hT : P.underlying T = some (.array n E)) (hs : SizeIs P E 1) (hE : P.underlying E = some (.int .u8)) (hg : P.eqGuardType P.depth T = false) (hx : EvA C σ H x (.v a)) (hy : EvA C σ H y (.v b)) (k : K (.v (decide (a ≠ b)))) :
    OpP P N C ⟨d, .binOp .neq T x y T2, ty, ps, af, g⟩ σ H K :=
  .vk k (fun ρ I L hst => .mk ⟨_, rfl, rfl⟩ fun ac w ha hm => by
    have e1 : ∀ l : List UInt8, bytesV l = (l.map fun c => (c.toNat : Int)).map (Value.int .u8) := fun l => by simp [bytesV, Fl.u8]
    have h := equal_ints (P := P) (T := T) (kd := .u8) w hT hs hE (a.l.map fun c => (c.toNat : Int)) (b.l.map fun c => (c.toNat : Int)) (by rw [List.length_map]; exact a.h) (by rw [List.length_map]; exact b.h)
    rw [← e1, ← e1] at h
    have hd : decide ((a.l.map fun c => (c.toNat : Int)) = (b.l.map fun c => (c.toNat : Int))) = decide (a = b) := by
      rw [← dec_arr, decide_eq_decide]
      exact eql_iff_map _ (fun a b h => UInt8.toNat_inj.1 (Int.ofNat_inj.1 h)) a.l b.l
    rw [hd] at h
    have hneq : (binOp .neq T (.agg (bytesV a.l).toArray) (.agg (bytesV b.l).toArray)).run P w = .ok (.bool (!(decide (a = b)))) w := by simp [binOp, h]
    simp only [execOp, ha.ev (hx.arr8 hst), ha.ev (hy.arr8 hst), Sem.run_bind, guard_agg w hg, hneq, Result.andThen_ok, Sem.run_pure]
    simp [asV, Rep.agg])
theorem OpP.eqlA32 {n : Nat} {a b : Arr n UInt32} (hT : P.underlying T = some (.array n E)) (hs : SizeIs P E 1) (hE : P.underlying E = some (.int .u32)) (hg : P.eqGuardType P.depth T = false) (hx : EvA C σ H x (.v a)) (hy : EvA C σ H y (.v b)) (k : K (.v (decide (a = b)))) :
    OpP P N C ⟨d, .binOp .eql T x y T2, ty, ps, af, g⟩ σ H K :=
  .vk k (fun ρ I L hst => .eqlW hT hs hE hg a.h b.h (hx.arr32 hst) (hy.arr32 hst) ⟨_, rfl, by rw [dec_arr]; rfl⟩)
theorem str_eq {a b : ByteArray} {s t : Str} (ha : a.data.toList = s.l) (hb : b.data.toList = t.l) : (a.toList == b.toList) = decide (s = t) := by
  have h1 : ∀ q : ByteArray, q.toList = q.data.toList := fun q => ByteArray.toList_eq q
  rw [h1, h1, ha, hb]
  cases s; cases t
  exact Bool.eq_iff_iff.2 (by simp)
theorem OpP.eqlS {s t : Str} (hx : EvA C σ H x (.v s)) (hy : EvA C σ H y (.v t)) (k : K (.v (decide (s = t)))) : OpP P N C ⟨d, .binOp .eql T x y T2, ty, ps, af, g⟩ σ H K :=
  .vk k (fun ρ I L hst => by
    obtain ⟨a, h1, h2⟩ := hx.str hst
    obtain ⟨b, h3, h4⟩ := hy.str hst
    exact .mk ⟨_, rfl, rfl⟩ fun ac w ha hm => by simp [execOp, ha.ev h1, ha.ev h3, eqGuard, binOp_string_eql, str_eq h2 h4, asV, Rep.agg])
theorem OpP.neqS {s t : Str} (hx : EvA C σ H x (.v s)) (hy : EvA C σ H y (.v t)) (k : K (.v (decide (s ≠ t)))) : OpP P N C ⟨d, .binOp .neq T x y T2, ty, ps, af, g⟩ σ H K :=
  .vk k (fun ρ I L hst => by
    obtain ⟨a, h1, h2⟩ := hx.str hst
    obtain ⟨b, h3, h4⟩ := hy.str hst
    exact .mk ⟨_, rfl, rfl⟩ fun ac w ha hm => by
      have := str_eq h2 h4
      simp [execOp, ha.ev h1, ha.ev h3, eqGuard, binOp, Op.stringOp, asV, Rep.agg] at this ⊢
      first | exact this | (simp [bne, this]))
theorem run_eqBl (w : World) {a b : Bool} (hT : P.underlying T = some .bool) : (Op.equal T (.bool a) (.bool b)).run P w = .ok (a == b) w := by
  have : ∀ dd, (Op.equalIn (dd + 1) T (.bool a) (.bool b)).run P w = .ok (a == b) w := fun dd => by simp [Op.equalIn, run_underlying hT]
  exact this 9999
theorem OpP.eqlBl {a b : Bool} (hT : P.underlying T = some .bool) (hx : EvA C σ H x (.v a)) (hy : EvA C σ H y (.v b)) (k : K (.v (a == b))) : OpP P N C ⟨d, .binOp .eql T x y T2, ty, ps, af, g⟩ σ H K :=
  .vk k (fun ρ I L hst => .mk ⟨_, rfl, rfl⟩ fun ac w ha hm => by simp [execOp, ha.ev (hx.bool hst), ha.ev (hy.bool hst), eqGuard, binOp, run_eqBl w hT, asV, Rep.agg])
theorem OpP.neqBl {a b : Bool} (hT : P.underlying T = some .bool) (hx : EvA C σ H x (.v a)) (hy : EvA C σ H y (.v b)) (k : K (.v (a != b))) : OpP P N C ⟨d, .binOp .neq T x y T2, ty, ps, af, g⟩ σ H K :=
  .vk k (fun ρ I L hst => .mk ⟨_, rfl, rfl⟩ fun ac w ha hm => by simp [execOp, ha.ev (hx.bool hst), ha.ev (hy.bool hst), eqGuard, binOp, run_eqBl w hT, asV, Rep.agg]; cases a <;> cases b <;> rfl)
/-! []byte of a string -/
theorem OpH.strBytes {s : Str} (hS : P.underlying S = some .string) (hD : P.underlying D = some (.slice E)) (hE : P.underlying E = some (.int .u8)) (hx : EvA C σ H x (.v s))
    (k : ∀ w, KH (.raw w) ((true, .own E w s.l) :: H)) : OpH P C N ⟨d, .convert S D x, ty, ps, af, g⟩ σ H KH :=
  .ofX fun ρ I L hs a w ha hm => by
    obtain ⟨b, h1, h2⟩ := hx.str hs
    have hb := hx.strLe hs
    have hsz : b.size = s.l.length := by rw [← h2]; rfl
    have hrun := run_bytes_of_string (P := P) w S D E b hS hD hE
    have hop : (execOp a.eval ⟨d, .convert S D x, ty, ps, af, g⟩).run P w = ((convert S D (.string b)).run P w).andThen fun v w' => .ok (.value v) w' := by
      simp [execOp, ha.ev h1]
    rw [hop, hrun]
    generalize hC : bytesRow b (grownCap w b.size 0 E) = R
    have hcap : grownCap w b.size 0 E ≥ b.size := grownCap_ge w b.size 0 E
    have hcapm : grownCap w b.size 0 E ≤ maxLen := grownCap_le_maxLen w b.size 0 E (by rw [hsz]; unfold maxLen; omega)
    generalize grownCap w b.size 0 E = c at *
    have hR : R.toList = bytesV s.l ++ List.replicate (c - b.size) (Value.int .u8 0) := by
      rw [← hC, ← h2]
      simp [bytesRow, bytesV, Fl.u8]
    have hnI : I w.heap.size = none := by
      cases hi : I w.heap.size with
      | none => rfl
      | some o => have := lt_of_get (hm.im _ _ hi); omega
    have hnew : (w.drew.alloc (.cells R E (R.size, R.size + 1))).heap[w.heap.size]? = some (.cells R E (R.size, R.size + 1)) := by
      show (w.heap.push _)[w.heap.size]? = _
      simp
    have hold : ∀ k, k < w.heap.size → (w.drew.alloc (.cells R E (R.size, R.size + 1))).heap[k]? = w.heap[k]? := fun k hk => by
      show (w.heap.push _)[k]? = _
      rw [Array.getElem?_push_lt hk, Array.getElem?_eq_getElem hk]
    have hRl : R = (bytesV s.l ++ List.replicate (c - b.size) (Value.int .u8 0)).toArray := by rw [← hR]
    have hbl : (bytesV s.l).length = s.l.length := by simp [bytesV]
    refine ⟨I, [[(w.heap.size, .cells R E (R.size, R.size + 1))]], ⟨rfl, rfl, rfl, by show _ ≤ (w.heap.push _).size; simp, fun k hk _ => hold k hk⟩, Le.refl I, fun b h0 h1 => absurd h0 h1, ⟨fun b o hb => ?_, fun p hp => ?_, fun p hp => ?_, ?_⟩, ?_, .raw (slc w.heap.size 0 b.size c), .own E (slc w.heap.size 0 b.size c) s.l, _, rfl, rfl, ⟨bytesV s.l, .inr ⟨w.heap.size, c, _, (R.size, R.size + 1), by rw [hsz], by rw [hRl], by rw [hbl]; exact (Nat.mul_one _).symm, ?_, by omega, hcapm, .inr ?_⟩, repL_u8.2 rfl⟩, k _⟩
    · exact (hold b (lt_of_get (hm.im b o hb))).trans (hm.im b o hb)
    · simp only [List.cons_append, List.nil_append, List.flatten_cons, List.mem_cons] at hp
      rcases hp with rfl | hp
      · exact hnew
      · exact (hold _ (lt_of_get (hm.loc p hp))).trans (hm.loc p hp)
    · simp only [List.cons_append, List.nil_append, List.flatten_cons, List.mem_cons] at hp
      rcases hp with rfl | hp
      · exact hnI
      · exact hm.sep p hp
    · simp only [List.cons_append, List.nil_append, List.flatten_cons, List.map_cons, List.nodup_cons, List.mem_map, not_exists, not_and]
      refine ⟨fun p hp e => ?_, hm.nodup⟩
      have := lt_of_get (hm.loc p hp)
      omega
    · intro p hp; simp at hp; subst hp; exact Nat.le_refl _
    · rw [List.length_append, hbl, List.length_replicate]
      show _ = c * 1
      omega
    · rw [hRl]; simp
/-- []byte of a slice's literal. -/
theorem OpH.same {α : Type} {r : Rep α} {t : Nat} {w : Value} {l : List α} {bb : Bool} {F : Bool × Blk → AHeap} (hT : P.underlying T = some (.slice E)) (hE : P.underlying E = some (.int .u8)) (hx : lookA σ t = some (.raw w)) (hH : Hole H (bb, .own E w l) F) (hl : l ≠ [])
    (k : KH (.raw w) (F (bb, .own E w l))) : OpH P C N ⟨d, .convert T T (.tmp t), ty, ps, af, g⟩ σ H KH := fun ρ I L hs => by
  obtain ⟨u, h1, rfl⟩ := hs.env t _ hx
  obtain ⟨j, X, h5, h6, h7⟩ := hH.get hs.heap
  obtain ⟨xs, h8, h9⟩ := h6.1
  intro a w ha hst
  have hx2 : a.eval (.tmp t) = _ := ha.ev (x := .tmp t) h1
  rcases h8 with ⟨rfl, hn, rfl, rfl⟩ | ⟨b, c, sp, q, rfl, rfl, e1, e2, e3, e4, e5⟩
  · exact absurd (List.eq_nil_of_length_eq_zero hn) hl
  · have hb := hst.mem.loc (b, .cells (xs ++ sp).toArray E q) (mem_chunk h5 (by simp))
    have hsh : w.shape? b = some (E, (xs ++ sp).length) := by simp [World.shape?, hb]
    have hr : (execOp a.eval ⟨d, .convert T T (.tmp t), ty, ps, af, g⟩).run P w = .ok (.value (slc b 0 l.length c)) (w.freeze ⟨b, (xs ++ sp).length, none⟩ 1) := by
      simp only [execOp, hx2, convert, Sem.run_bind, run_underlying hT, run_underlying hE, Result.andThen_ok]
      simp [markStringish, hsh]
    rw [hr]
    refine ⟨I, L.set j [(b, .cells (xs ++ sp).toArray E ((xs ++ sp).length, (xs ++ sp).length + 1))], hst.write (w' := w.freeze ⟨b, (xs ++ sp).length, none⟩ 1) h5 ?_ ?_ ?_ rfl rfl rfl, Le.refl I, .raw _, _, rfl, h7 I (bb, .own E _ l) _ (Le.refl I) ⟨⟨xs, .inr ⟨b, c, sp, _, rfl, rfl, e1, e2, e3, e4, .inr rfl⟩, h9⟩, fun hbb p hp => ?_⟩, k⟩
    · have hlt := lt_of_get hb
      simp only [World.freeze, Nat.one_ne_zero, if_false]
      rw [Array.getElem?_modify, if_pos rfl, hb]
      rcases e5 with rfl | rfl
      · simp
      · simp
    · intro q hq
      simp only [World.freeze, Nat.one_ne_zero, if_false]
      rw [Array.getElem?_modify, if_neg (Ne.symm hq)]
    · simp [World.freeze]
    · have := h6.2 hbb _ (List.mem_singleton.2 rfl)
      simp only [List.mem_singleton] at hp
      subst hp; exact this
theorem OpS.appendZG {ρ : Env} {I : Im} {L : Lh} {K : Value → Im → Lh → Prop} (i : Nat) {by_ n m : Nat} {v zv : Value} {kd : IntKind} {xs : List Value} {X : List (Nat × Obj)} {U : TypeId} {inf : TypeInfo} (hT : P.underlying T = some (.slice E)) (hi : P.info? E = some inf) (hz : inf.zero = some zv) (hz1 : zv.cells = #[zv])
    (hsz : inf.size = 1) (hone : zv.oneCell' = true) (hU : P.underlying U = some (.int kd))
    (hx : ev ρ x = some v) (hy : ev ρ y = some (i64 (m : Int))) (hL : L[i]? = some X) (hown : OwnG E 1 v n xs X)
    (hn63 : n + m ≤ maxLen) (hb : (n + m) * inf.bytes ≤ 140737488355328) (k : ∀ v' X', OwnG E 1 v' (n + m) (xs ++ List.replicate m zv) X' → (∀ p ∈ X', p.1 ∈ X.map Prod.fst ∨ C.w0.heap.size ≤ p.1) → K v' I (L.set i X')) :
    OpS P C N ⟨d, .call ⟨.builtin .append, #[x, y], #[T, U]⟩, ty, ps, af, g⟩ ρ I L K := fun a w ha hst => by
  obtain ⟨a0, c, rfl⟩ := hown.shape
  have h63 : n + m ≤ 9223372036854775807 := by unfold maxLen at hn63; omega
  have hzc : ∀ q, Builtin.zeroCells zv.cells q = (List.replicate q zv).toArray := fun q => by
    apply Array.ext'
    simp [Builtin.zeroCells, hz1, Nat.mod_one]
    rw [List.map_const']
    simp
  have hw : IntKind.wrap .i64 (m : Int) = (m : Int) := wrap_i64 (by omega) (by omega)
  have hm00 : ¬ ((m : Int) < 0) := by omega
  have hw0 : IntKind.wrap .i64 0 = 0 := wrap_i64 (by omega) (by omega)
  have hmb : ¬ ((m : Int) * (inf.bytes : Int) > 281474976710656) := by
    have : m * inf.bytes ≤ (n + m) * inf.bytes := Nat.mul_le_mul_right _ (by omega)
    have h2 : ((m * inf.bytes : Nat) : Int) ≤ 140737488355328 := Int.ofNat_le.2 (Nat.le_trans this hb)
    rw [Int.natCast_mul] at h2
    omega
  have hmb' : ¬ (281474976710656 < (m : Int) * (inf.bytes : Int)) := hmb
  refine appendG_core (inf := inf) (zv := zv) (news := List.replicate m zv) i (by rw [hz1, hsz]; rfl) hx hy ha hst hL (by rw [hsz]; exact hown) (by simp [hsz]) (by simp [ones, List.all_replicate, hone]) hn63 ⟨fun hle => ?_, fun hlt olds hold => ?_⟩ (by rw [hsz]; exact k)
  · by_cases hm0 : m = 0
    · subst hm0
      cases a0 <;> simp [Builtin.append_, run_underlying hT, run_underlying hU, sizeOf, typeInfo, zeroValue, hi, hz, asInt, asIntOf, hw, hw0, (show n ≤ c by simpa using hle), hsz]
    · cases a0 <;> simp [Builtin.append_, run_underlying hT, run_underlying hU, sizeOf, typeInfo, zeroValue, hi, hz, asInt, asIntOf, hw, hw0, hm00, hmb', hle, hsz, hm0, hzc]
  · rw [hsz] at hold
    have hfit : ¬ (281474976710656 < Builtin.nextslicecap (n + m) c * inf.bytes) := by have := growslice_fits hlt hb; omega
    have hnle : ¬ (n + m ≤ c) := by omega
    have h63' : ¬ (9223372036854775807 < ((n : Int) + (m : Int))) := by omega
    by_cases hm0 : m = 0
    · subst hm0
      have hnle' : ¬ n ≤ c := by simpa using hnle
      have hfit' : ¬ (281474976710656 < Builtin.nextslicecap n c * inf.bytes) := by simpa using hfit
      have h63'' : ¬ (9223372036854775807 < (n : Int)) := by omega
      simp [Builtin.append_, run_underlying hT, run_underlying hU, sizeOf, typeInfo, zeroValue, hi, hz, asInt, asIntOf, hw, hw0, hnle', hfit', h63'', Question.forced, newRow, grownCap, hold, hsz, hzc]
    · simp [Builtin.append_, run_underlying hT, run_underlying hU, sizeOf, typeInfo, zeroValue, hi, hz, asInt, asIntOf, hw, hw0, hm00, hmb', hnle, h63', hfit, Question.forced, newRow, grownCap, hold, hsz, hzc, hm0]

theorem OpH.appendZ {α : Type} {r : Rep α} {i0 : Inhabited α} {by_ t : Nat} {w : Value} {l : List α} {m : Int} {zv : Value} {F : Bool × Blk → AHeap} (hT : P.underlying T = some (.slice E)) (h1 : OneT P E by_ zv) (hz1 : zv.cells = #[zv]) (hone : zv.oneCell' = true) (hsz : Rep.size α = 1)
    (hz : ∀ I, rep I (default : α) [zv]) (hU : P.underlying U = some (.int .i64)) (hx : lookA σ t = some (.raw w)) (hH : Hole H (true, .own E w l) F) (hy : EvA C σ H y (.v m)) (h0 : 0 ≤ m) (hb : (l.length + m.toNat) * by_ ≤ 140737488355328) (hn : l.length + m.toNat ≤ 9223372036854775807)
    (k : ∀ w', KH (.raw w') (F (true, .own E w' (l ++ List.replicate m.toNat default)))) : OpH P C N ⟨d, .call ⟨.builtin .append, #[.tmp t, y], #[T, U]⟩, ty, ps, af, g⟩ σ H KH := fun ρ I L hs => by
  obtain ⟨u, h2, rfl⟩ := hs.env t _ hx
  obtain ⟨h3, _⟩ := hy.int hs
  obtain ⟨j, X, h5, h6, h7⟩ := hH.get hs.heap
  obtain ⟨xs, h8, h9⟩ := h6.1
  obtain ⟨inf, hi, hzz, hs1, hs2⟩ := h1.get
  rw [hsz] at h8
  intro a w0 ha hst
  have hm : m = ((m.toNat : Nat) : Int) := by omega
  rw [hm] at h3
  refine Yld.mono (OpS.appendZG (K := fun v' J L' => ∃ X', L' = L.set j X' ∧ J = I ∧ OwnG E 1 v' (l.length + m.toNat) (xs ++ List.replicate m.toNat zv) X' ∧ (∀ p ∈ X', p.1 ∈ X.map Prod.fst ∨ C.w0.heap.size ≤ p.1)) (x := .tmp t) (by_ := 0) j hT hi hzz hz1 hs1 hone hU h2 h3 h5 h8 (by unfold maxLen; omega) (by rw [hs2]; exact hb) (fun v' X' ho hn => ⟨X', rfl, rfl, ho, hn⟩) a w0 ha hst) ?_
  rintro v' w' ⟨J, L', hst', X', rfl, rfl, ho, hnew⟩
  have hrl : repL J (List.replicate m.toNat (default : α)) (List.replicate m.toNat zv) := by
    have := repL_replicate (hz J) m.toNat
    have e : ∀ n, (List.replicate n [zv]).flatten = List.replicate n zv := fun n => by
      induction n with
      | zero => rfl
      | succ n ih => rw [List.replicate_succ, List.flatten_cons, ih, List.replicate_succ]; rfl
    rwa [e] at this
  refine ⟨J, _, hst', Le.refl J, .raw v', _, rfl, h7 J (true, .own E v' (l ++ List.replicate m.toNat default)) X' (Le.refl J) ⟨⟨_, by rw [List.length_append, List.length_replicate, hsz]; exact ho, h9.append hrl⟩, fun _ p hp => ?_⟩, k v'⟩
  rcases hnew p hp with h | h
  · obtain ⟨q, hq, hqe⟩ := List.mem_map.1 h
    rw [← hqe]; exact h6.2 rfl q hq
  · exact h
/-! copy -/
theorem Src.firsts {I : Im} {L : Lh} {s m : Nat} {v : Value} {news : List Value} (h : Src P I L s v m news) {w : World} (hm : Mem I L w) {k : Nat} (hk : k ≤ m) : (Builtin.firstCells s k v).run P w = .ok (news.take (k * s)).toArray w := h.cells w hm k hk
theorem OpH.copyOwn {α : Type} {r : Rep α} {i0 : Inhabited α} {t : Nat} {w : Value} {l m : List α} {bb : Bool} {F : Bool × Blk → AHeap} (tE : TyIs P E α) (hT : P.underlying T = some (.slice E)) (hx : lookA σ t = some (.raw w)) (hH : Hole H (bb, .own E w l) F) (hy : SrcA P C σ H y m)
    (hb : m.length ≤ 9223372036854775807) (k : KH (.v ((min m.length l.length : Nat) : Int)) (F (bb, .own E w (m.take l.length ++ l.drop m.length)))) : OpH P C N ⟨d, .call ⟨.builtin .copy, #[.tmp t, y], #[T, U]⟩, ty, ps, af, g⟩ σ H KH := fun ρ I L hs => by
  obtain ⟨u, h1, rfl⟩ := hs.env t _ hx
  obtain ⟨v, news, h2, h3, h4⟩ := hy ρ I L hs
  obtain ⟨j, X, h5, h6, h7⟩ := hH.get hs.heap
  obtain ⟨xs, h8, h9⟩ := h6.1
  intro a w ha hst
  have hmem := hst.mem
  generalize hmn : min m.length l.length = n at k
  have hnm : Nat.min m.length l.length = n := hmn
  have hsz := tE.size.run w
  have hfc := h3.cells w hmem n (by omega)
  have hl4 := h4.len
  have hpos : 0 < Rep.size α := Nat.pos_of_ne_zero tE.pos
  have hlist : m.take l.length = m.take n := by rw [← hmn, List.take_eq_take_iff]; omega
  have hdrop : l.drop m.length = l.drop n := by
    by_cases h : m.length ≤ l.length
    · rw [← hmn, Nat.min_eq_left h]
    · rw [List.drop_eq_nil_of_le (by omega), List.drop_eq_nil_of_le (by omega)]
  have hrep : repL I (m.take l.length ++ l.drop m.length) (segSet xs 0 (news.take (n * Rep.size α))) := by
    rw [hlist, hdrop]
    have h10 := h4.cut 0 n (by omega)
    have h11 := h9.cut n l.length (Nat.le_refl _)
    simp only [List.drop_zero, Nat.zero_mul, List.take_length] at h10 h11
    rw [← h9.len, List.take_length] at h11
    have hl : (news.take (n * Rep.size α)).length = n * Rep.size α := by
      rw [List.length_take, hl4]; exact Nat.min_eq_left (Nat.mul_le_mul_right _ (by omega))
    simp only [segSet, List.take_zero, List.nil_append, Nat.zero_add]
    rw [hl]
    exact h10.append h11
  have hlen2 : (m.take l.length ++ l.drop m.length).length = l.length := by
    rw [hlist, hdrop]; simp; omega
  rcases h8 with ⟨rfl, hn0, rfl, rfl⟩ | ⟨b, c, sp, q, rfl, rfl, e1, e2, e3, e4, e5⟩
  · have hn00 : n = 0 := by omega
    have hr : (execOp a.eval ⟨d, .call ⟨.builtin .copy, #[.tmp t, y], #[T, U]⟩, ty, ps, af, g⟩).run P w = .ok (.value (goInt n)) w := by
      simp only [execOp, resolve, invoke, builtin, Builtin.copy_, Sem.run_bind, run_underlying hT, Result.andThen_ok, ha.ev (x := .tmp t) h1, ha.ev h2, h3.len w, hsz, hn0] at hfc hnm ⊢
      simp [run_underlying hT, h3.len w, hsz, ha.ev (x := .tmp t) h1, ha.ev h2, hn0, hn00] at hfc hnm ⊢
      simp [hnm, hfc]
    rw [hr]
    refine ⟨I, L.set j [], hst.dropAt j, Le.refl I, .v ((n : Nat) : Int), _, ⟨_, ⟨rfl, by omega, by omega⟩, rfl⟩, h7 I (bb, .own E _ (m.take l.length ++ l.drop m.length)) [] (Le.refl I) ⟨⟨_, .inl ⟨rfl, by rw [hlen2]; exact hn0, ?_, rfl⟩, hrep⟩, by simp⟩, k⟩
    have := hrep.len
    rw [hlen2, hn0, Nat.zero_mul] at this
    exact List.eq_nil_of_length_eq_zero this
  · have hbh := hst.mem.loc (b, .cells (xs ++ sp).toArray E q) (mem_chunk h5 (by simp))
    have hxl : xs.length = l.length * Rep.size α := h9.len
    have hnl : (news.take (n * Rep.size α)).length = n * Rep.size α := by
      rw [List.length_take, hl4]; exact Nat.min_eq_left (Nat.mul_le_mul_right _ (by omega))
    have hfit : 0 + (news.take (n * Rep.size α)).length ≤ xs.length := by rw [hnl, hxl, Nat.zero_add]; exact Nat.mul_le_mul_right _ (by omega)
    have hall : ∀ u ∈ news.take (n * Rep.size α), u.oneCell' = true := fun u hu => List.all_eq_true.1 h4.flat u (List.mem_of_mem_take hu)
    have hst2 := run_storeCells_fr P b 0 E q (news.take (n * Rep.size α)) 0 (xs ++ sp).toArray w hbh (by simp only [List.size_toArray, List.length_append]; omega) hall (fun j hj => by rcases e5 with rfl | rfl <;> simp at hj ⊢ <;> omega)
    have hr : (execOp a.eval ⟨d, .call ⟨.builtin .copy, #[.tmp t, y], #[T, U]⟩, ty, ps, af, g⟩).run P w = .ok (.value (goInt n)) (w.setRow b (segSet (xs ++ sp) 0 (news.take (n * Rep.size α))).toArray) := by
      simp [execOp, resolve, invoke, builtin, Builtin.copy_, run_underlying hT, h3.len w, hsz, ha.ev (x := .tmp t) h1, ha.ev h2, hmn, hfc]
      simp only [Nat.add_zero] at hst2
      rw [show (⟨b, 0, none⟩ : Addr) = { block := b, off := 0 } from rfl] at hst2
      simp [hst2, segSet]
    rw [hr]
    have hseg : segSet (xs ++ sp) 0 (news.take (n * Rep.size α)) = segSet xs 0 (news.take (n * Rep.size α)) ++ sp := segSet_append xs sp _ _ hfit
    have hlen : (segSet xs 0 (news.take (n * Rep.size α))).length = xs.length := segSet_length _ _ _ hfit
    refine ⟨I, _, setRowG hst h5 _, Le.refl I, .v ((n : Nat) : Int), _, ⟨_, ⟨rfl, by omega, by omega⟩, rfl⟩, h7 I (bb, .own E _ (m.take l.length ++ l.drop m.length)) _ (Le.refl I) ⟨⟨_, .inr ⟨b, c, sp, q, by rw [hlen2], by rw [hseg], by rw [hlen, hlen2]; exact e1, by rw [List.length_append, hlen, ← List.length_append]; exact e2, by rw [hlen2]; exact e3, e4, ?_⟩, hrep⟩, fun hbb p hp => ?_⟩, k⟩
    · rw [List.length_append, hlen, ← List.length_append]; exact e5
    · have := h6.2 hbb _ (List.mem_singleton.2 rfl)
      simp only [List.mem_singleton] at hp
      subst hp; exact this

end Go.Ab
