import Derived.Test.YtlohppddhbimnaaDoorFlB3
set_option linter.unusedVariables false
set_option linter.unusedSimpArgs false
namespace Go.Fl
open Go.RowKit

/-- Chunk i, one block, is written: the world w' is w but for this block. -/
theorem St.write {C : Ctx} {I : Im} {L : Lh} {w w' : World} (hs : St C I L w) {i b : Nat} {o o' : Obj} (hL : L[i]? = some [(b, o)])
    (hb : w'.heap[b]? = some o') (hk : ∀ k, k ≠ b → w'.heap[k]? = w.heap[k]?) (hsz : w'.heap.size = w.heap.size) (h1 : w'.os = w.os) (h2 : w'.tape = w.tape) (h3 : w'.output = w.output) :
    St C I (L.set i [(b, o')]) w' := by
  have hm := hs.mem
  have hsplit := split_at L i _ hL [(b, o')]
  have hbm : (b, o) ∈ L.flatten := mem_chunk hL (by simp)
  have hnd := hm.nodup
  rw [hsplit.1] at hnd
  have hoth : ∀ p, p ∈ (L.take i).flatten ∨ p ∈ (L.drop (i + 1)).flatten → p ∈ L.flatten ∧ p.1 ≠ b := by
    intro p hp
    rw [hsplit.1]
    simp only [List.map_append, List.nodup_append] at hnd
    rcases hp with hp | hp
    · exact ⟨by simp [hp], fun hx => hnd.2.2 p.1 (List.mem_map_of_mem hp) b (by simp) hx⟩
    · exact ⟨by simp [hp], fun hx => hnd.2.1.2.2 b (by simp) p.1 (List.mem_map_of_mem hp) hx.symm⟩
  have hcas : ∀ p ∈ (L.set i [(b, o')]).flatten, p = (b, o') ∨ (p ∈ (L.take i).flatten ∨ p ∈ (L.drop (i + 1)).flatten) := by
    intro p hp
    rw [hsplit.2] at hp
    simp only [List.mem_append, List.mem_singleton] at hp
    rcases hp with hp | hp | hp
    · exact .inr (.inl hp)
    · exact .inl hp
    · exact .inr (.inr hp)
  refine ⟨⟨fun k ob hI => ?_, fun p hp => ?_, fun p hp => ?_, ?_⟩, ⟨h1.trans hs.chg.os, h2.trans hs.chg.tape, h3.trans hs.chg.output, by rw [hsz]; exact hs.chg.size, fun k hk0 hkM => ?_⟩, fun p hp => ?_, hs.im0, hs.new⟩
  · have : k ≠ b := by
      rintro rfl
      have := hm.sep _ hbm
      rw [this] at hI
      cases hI
    rw [hk k this]
    exact hm.im k ob hI
  · rcases hcas p hp with rfl | h
    · exact hb
    · obtain ⟨h4, h5⟩ := hoth p h
      rw [hk _ h5]
      exact hm.loc p h4
  · rcases hcas p hp with rfl | h
    · exact hm.sep (b, o) hbm
    · exact hm.sep p (hoth p h).1
  · rw [hsplit.2]
    simpa using hnd
  · have : k ≠ b := by
      rintro rfl
      rcases hs.own _ hbm with h | h
      · simp at h; omega
      · exact hkM h
    rw [hk k this]
    exact hs.chg.block k hk0 hkM
  · rcases hcas p hp with rfl | h
    · exact hs.own (b, o) hbm
    · exact hs.own p (hoth p h).1
theorem St.setRow {C : Ctx} {I : Im} {L : Lh} {w : World} (hs : St C I L w) {i b : Nat} {cs : List Value} {e : TypeId} (hL : L[i]? = some [(b, row cs e)]) (cs' : List Value) : St C I (L.set i [(b, row cs' e)]) (w.setRow b cs'.toArray) := by
  have hb := hs.mem.loc (b, row cs e) (mem_chunk hL (by simp))
  exact hs.write hL (setRow_heap w b _ _ e (0, 0) hb) (fun k hk => setRow_other w b k _ hk) (by simp) rfl rfl rfl

section
variable {P : Program} {C : Ctx} {N : Nat} {ρ : Env} {I : Im} {L : Lh} {φ : Value → Prop} {K : Value → Im → Lh → Prop} {d : Option Nat} {ty : TypeId} {ps : String} {af : Array Edge} {g : Option (Nat × Bool)}
variable {x y z : Operand} {T T2 E : TypeId}

def ones (vs : List Value) : Bool := vs.all (·.oneCell')
theorem OpS.store (i : Nat) {b off : Nat} {v : Value} {cs vs : List Value} {e : TypeId} (hs : SizeIs P T vs.length) (hx : ev ρ x = some (ptr b off)) (hy : ev ρ y = some v) (hv : v.cells.toList = vs) (h1 : ones vs = true)
    (hL : L[i]? = some [(b, row cs e)]) (hle : off + vs.length ≤ cs.length) (k : K undef I (L.set i [(b, row (segSet cs off vs) e)])) :
    OpS P C N ⟨d, .store T x y, ty, ps, af, g⟩ ρ I L K := fun a w ha hst => by
  have hb := hst.mem.loc (b, row cs e) (mem_chunk hL (by simp))
  have hvs : v.cells.size = vs.length := by rw [← hv]; simp
  have hall : ∀ u ∈ vs, u.oneCell' = true := fun u hu => List.all_eq_true.1 h1 u hu
  have hrun := run_storeCells_at P b off e vs 0 cs.toArray w hb (by simpa using hle) hall
  have hr : (execOp a.eval ⟨d, .store T x y, ty, ps, af, g⟩).run P w = .ok .skip (w.setRow b (segSet cs off vs).toArray) := by
    simp only [Nat.add_zero] at hrun
    simp [execOp, ha.ev hx, ha.ev hy, Instr.storeAt, Instr.sureAddr, storeVar, hs.run, hvs, hv, hrun, segSet]
  rw [hr]
  exact ⟨I, _, hst.setRow hL _, k⟩

theorem OpS.storeS (i : Nat) {b off : Nat} {v : Value} {cs : List Value} {e : TypeId} (hs : SizeIs P T 1) (hx : ev ρ x = some (ptr b off)) (hy : ev ρ y = some v) (hv : v.cells.toList = [v]) (h1 : v.oneCell' = true)
    (hL : L[i]? = some [(b, row cs e)]) (hle : off < cs.length) (k : K undef I (L.set i [(b, row (segSet cs off [v]) e)])) : OpS P C N ⟨d, .store T x y, ty, ps, af, g⟩ ρ I L K :=
  .store i (vs := [v]) hs hx hy hv (by simp [ones, h1]) hL (by simp only [List.length_singleton]; omega) k
/-- An aggregate of m cells. -/
theorem OpS.storeA (i m : Nat) {b off : Nat} {cs vs : List Value} {e : TypeId} (hs : SizeIs P T m) (hx : ev ρ x = some (ptr b off)) (hy : ev ρ y = some (.agg vs.toArray)) (hm : vs.length = m) (h1 : ones vs = true)
    (hL : L[i]? = some [(b, row cs e)]) (hle : off + m ≤ cs.length) (k : K undef I (L.set i [(b, row (segSet cs off vs) e)])) : OpS P C N ⟨d, .store T x y, ty, ps, af, g⟩ ρ I L K :=
  .store i (vs := vs) (by rw [hm]; exact hs) hx hy rfl h1 hL (by rw [hm]; exact hle) k
/-- An aggregate over the whole of a block. -/
theorem OpS.storeW (i m : Nat) {b : Nat} {cs vs : List Value} {e : TypeId} (hs : SizeIs P T m) (hx : ev ρ x = some (ptr b 0)) (hy : ev ρ y = some (.agg vs.toArray)) (hm : vs.length = m) (h1 : ones vs = true)
    (hL : L[i]? = some [(b, row cs e)]) (hle : cs.length = m) (k : K undef I (L.set i [(b, row vs e)])) : OpS P C N ⟨d, .store T x y, ty, ps, af, g⟩ ρ I L K :=
  .storeA i m hs hx hy hm h1 hL (by omega) (by rw [segSet_all _ _ (by omega)]; exact k)
theorem ones_map {α : Type} (f : α → Value) (l : List α) (h : ∀ x, (f x).oneCell' = true) : ones (l.map f) = true := by
  simp [ones, h]

/-! appends -/
/-- What is appended, or copied: m elements, their cells, in whatever memory. -/
structure Src (P : Program) (I : Im) (L : Lh) (s : Nat) (v : Value) (m : Nat) (news : List Value) : Prop where
  len : ∀ w, (Builtin.lenOf v).run P w = .ok m w
  cells : ∀ w, Mem I L w → ∀ k, k ≤ m → (Builtin.firstCells s k v).run P w = .ok (news.take (k * s)).toArray w
  size : news.length = m * s
theorem Src.sl {s m : Nat} {v : Value} {news : List Value} (h : Sl I s v m news) : Src P I L s v m news := by
  obtain ⟨a, c, rfl, hl, hnc, hcm, hnone, hcells⟩ := h
  refine ⟨fun w => by simp [Builtin.lenOf], fun w hm k hk => ?_, hl⟩
  have hle : k * s ≤ m * s := Nat.mul_le_mul_right _ hk
  have htl : (news.take (k * s)).length = k * s := by rw [List.length_take, hl]; exact Nat.min_eq_left hle
  by_cases hn : news = []
  · subst hn
    cases a with
    | none => simp [Builtin.firstCells]
    | some ad =>
      have h0 : k * s = 0 := by simp at htl; omega
      simp [Builtin.firstCells, loadCells, h0, loadCellsFrom]
  · obtain ⟨b, o, rfl, hc⟩ := hcells hn
    have := run_loadCells_list (P := P) w ⟨b, o, none⟩ (news.take (k * s)) (fun j u hj => by
      rw [List.getElem?_take] at hj
      split at hj
      · rw [Addr.add_plain]; exact hc.cell hm hj
      · cases hj)
    rw [htl] at this
    simp only [Builtin.firstCells, this]
theorem Src.chunk {s b n c : Nat} {cs : List Value} {e : TypeId} (i : Nat) (hL : L[i]? = some [(b, row cs e)]) (h : cs.length = n * s) : Src P I L s (slc b 0 n c) n cs := by
  refine ⟨fun w => by simp [Builtin.lenOf], fun w hm k hk => ?_, h⟩
  have hle : k * s ≤ n * s := Nat.mul_le_mul_right _ hk
  have htl : (cs.take (k * s)).length = k * s := by rw [List.length_take, h]; exact Nat.min_eq_left hle
  have := run_loadCells_list (P := P) w ⟨b, 0, none⟩ (cs.take (k * s)) (fun j u hj => by
    rw [List.getElem?_take] at hj
    split at hj
    · rw [Addr.add_plain, chunk_cell hm hL]; simpa using hj
    · cases hj)
  rw [htl] at this
  simp only [Builtin.firstCells, this]
theorem Src.own {s m : Nat} {v : Value} {news : List Value} {X : List (Nat × Obj)} {e : TypeId} (i : Nat) (hL : L[i]? = some X) (h : Own e s v m news X) : Src P I L s v m news := by
  rcases h with ⟨rfl, rfl, rfl, rfl⟩ | ⟨b, c, sp, rfl, rfl, h1, h2, h3, h4⟩
  · exact Src.sl (Sl.nil I s)
  · refine ⟨fun w => by simp [Builtin.lenOf], fun w hm k hk => ?_, h1⟩
    have hle : k * s ≤ m * s := Nat.mul_le_mul_right _ hk
    have htl : (news.take (k * s)).length = k * s := by rw [List.length_take, h1]; exact Nat.min_eq_left hle
    have := run_loadCells_list (P := P) w ⟨b, 0, none⟩ (news.take (k * s)) (fun j u hj => by
      rw [List.getElem?_take] at hj
      split at hj
      · rw [Addr.add_plain, chunk_cell hm hL, Nat.zero_add, List.getElem?_append_left (List.getElem?_eq_some_iff.1 hj).1]; exact hj
      · cases hj)
    rw [htl] at this
    simp only [Builtin.firstCells, this]
def bytesV (l : List UInt8) : List Value := l.map u8
theorem Src.str (s : ByteArray) : Src P I L 1 (.string s) s.size (bytesV s.data.toList) := by
  refine ⟨fun w => by simp [Builtin.lenOf], fun w hm k hk => ?_, by simp [bytesV]⟩
  simp only [Builtin.firstCells, Sem.run_pure, Nat.mul_one]
  congr 1
  apply Array.ext'
  simp [bytesV, ByteArray.data_extract, u8, List.map_take]
  rfl

theorem run_append_sl {n m : Nat} {inf : TypeInfo} {zv : Value} {a : Option Addr} {c : Nat} {v : Value} {news : List Value} {U E2 : TypeId} {w : World}
    (hT : P.underlying T = some (.slice E)) (hi : P.info? E = some inf) (hz : inf.zero = some zv) (hU : P.underlying U = some (.slice E2))
    (hlen : ∀ w, (Builtin.lenOf v).run P w = .ok m w) (hcells : ∀ w', w'.heap = w.heap → (Builtin.firstCells inf.size m v).run P w' = .ok news.toArray w')
    (hn63 : n + m ≤ 9223372036854775807) (hb : (n + m) * inf.bytes ≤ 140737488355328) :
    (n + m ≤ c → (Builtin.append_ #[T, U] ty #[.slice a n c, v]).run P w = ((match a with | some ad => storeCells (ad.add (n * inf.size)) news | none => pure ()).run P w).andThen fun _ w' => .ok (.slice a (n + m) c) w') ∧
    (c < n + m → ∀ olds, ((Builtin.firstCells inf.size n (.slice a n c)).run P w.drew = .ok olds w.drew) →
      (Builtin.append_ #[T, U] ty #[.slice a n c, v]).run P w = .ok (.slice (some ⟨w.heap.size, 0, none⟩) (n + m) (grownCap w (n + m) c E))
        (w.drew.alloc (.cells (olds ++ news.toArray ++ Builtin.zeroCells zv.cells (grownCap w (n + m) c E - (n + m))) E))) := by
  refine ⟨fun hle => ?_, fun hlt olds hold => ?_⟩
  · have hc := hcells w rfl
    cases a <;> simp [Builtin.append_, run_underlying hT, run_underlying hU, sizeOf, typeInfo, hi, hlen, hle, hc]
  · have hc := hcells w.drew rfl
    have h63' : ¬ (9223372036854775807 < ((n : Int) + (m : Int))) := by omega
    have hfit : ¬ (281474976710656 < Builtin.nextslicecap (n + m) c * inf.bytes) := by have := growslice_fits hlt hb; omega
    have hnle : ¬ (n + m ≤ c) := by omega
    simp [Builtin.append_, run_underlying hT, run_underlying hU, sizeOf, typeInfo, zeroValue, hi, hz, hlen, hnle, h63', hfit, Question.forced, newRow, grownCap, hold, hc]
theorem run_append_str {n m : Nat} {inf : TypeInfo} {zv : Value} {a : Option Addr} {c : Nat} {v : Value} {news : List Value} {U : TypeId} {w : World}
    (hT : P.underlying T = some (.slice E)) (hi : P.info? E = some inf) (hz : inf.zero = some zv) (hU : P.underlying U = some .string)
    (hlen : ∀ w, (Builtin.lenOf v).run P w = .ok m w) (hcells : ∀ w', w'.heap = w.heap → (Builtin.firstCells inf.size m v).run P w' = .ok news.toArray w')
    (hn63 : n + m ≤ 9223372036854775807) (hb : (n + m) * inf.bytes ≤ 140737488355328) :
    (n + m ≤ c → (Builtin.append_ #[T, U] ty #[.slice a n c, v]).run P w = ((match a with | some ad => storeCells (ad.add (n * inf.size)) news | none => pure ()).run P w).andThen fun _ w' => .ok (.slice a (n + m) c) w') ∧
    (c < n + m → ∀ olds, ((Builtin.firstCells inf.size n (.slice a n c)).run P w.drew = .ok olds w.drew) →
      (Builtin.append_ #[T, U] ty #[.slice a n c, v]).run P w = .ok (.slice (some ⟨w.heap.size, 0, none⟩) (n + m) (grownCap w (n + m) c E))
        (w.drew.alloc (.cells (olds ++ news.toArray ++ Builtin.zeroCells zv.cells (grownCap w (n + m) c E - (n + m))) E))) := by
  refine ⟨fun hle => ?_, fun hlt olds hold => ?_⟩
  · have hc := hcells w rfl
    cases a <;> simp [Builtin.append_, run_underlying hT, run_underlying hU, sizeOf, typeInfo, hi, hlen, hle, hc]
  · have hc := hcells w.drew rfl
    have h63' : ¬ (9223372036854775807 < ((n : Int) + (m : Int))) := by omega
    have hfit : ¬ (281474976710656 < Builtin.nextslicecap (n + m) c * inf.bytes) := by have := growslice_fits hlt hb; omega
    have hnle : ¬ (n + m ≤ c) := by omega
    simp [Builtin.append_, run_underlying hT, run_underlying hU, sizeOf, typeInfo, zeroValue, hi, hz, hlen, hnle, h63', hfit, Question.forced, newRow, grownCap, hold, hc]

/-- Of slice type T: its element type E, the cells and bytes of an element. -/
structure Elt (P : Program) (T E : TypeId) (s by_ : Nat) : Prop where
  und : P.underlying T = some (.slice E)
  info : ∃ inf zv, P.info? E = some inf ∧ inf.zero = some zv ∧ inf.size = s ∧ inf.bytes = by_ ∧ zv.cells.size = s
def eltB (P : Program) (T : TypeId) : Option (TypeId × Nat × Nat × Nat) :=
  match P.underlying T with
  | some (.slice E) => match P.info? E with
    | some inf => match inf.zero with
      | some zv => some (E, inf.size, inf.bytes, zv.cells.size)
      | none => none
    | none => none
  | _ => none
theorem Elt.of {E : TypeId} {s by_ : Nat} (h : eltB P T = some (E, s, by_, s)) : Elt P T E s by_ := by
  unfold eltB at h
  split at h
  · rename_i e hu
    split at h
    · rename_i inf hi
      split at h
      · rename_i zv hz
        simp only [Option.some.injEq, Prod.mk.injEq] at h
        obtain ⟨rfl, h1, h2, h3⟩ := h
        exact ⟨hu, inf, zv, hi, hz, h1, h2, h3⟩
      · cases h
    · cases h
  · cases h
theorem Elt.size {E : TypeId} {s by_ : Nat} (h : Elt P T E s by_) : SizeIs P E s := by
  obtain ⟨inf, zv, hi, hz, h1, _, _⟩ := h.info
  simp [SizeIs, hi, h1]

theorem St.dropAt {C : Ctx} {I : Im} {L : Lh} {w : World} (hs : St C I L w) (i : Nat) : St C I (L.set i []) w := by
  have hsub := sub_set_nil L i
  exact ⟨⟨hs.mem.im, fun p hp => hs.mem.loc p (hsub.subset hp), fun p hp => hs.mem.sep p (hsub.subset hp), (hsub.map Prod.fst).nodup hs.mem.nodup⟩, hs.chg, fun p hp => hs.own p (hsub.subset hp), hs.im0, hs.new⟩
theorem St.replace {C : Ctx} {I : Im} {L : Lh} {w w' : World} (hs : St C I L w) {i : Nat} {X : List (Nat × Obj)} (hL : L[i]? = some X) {o : Obj} (hw : w'.heap = w.heap.push o) (h1 : w'.os = w.os) (h2 : w'.tape = w.tape) (h3 : w'.output = w.output) :
    St C I (L.set i [(w.heap.size, o)]) w' := by
  have hnew : w'.heap[w.heap.size]? = some o := by rw [hw]; simp
  have hold : ∀ b, b < w.heap.size → w'.heap[b]? = w.heap[b]? := fun b hb => by rw [hw, Array.getElem?_push, if_neg (by omega)]
  have hm := hs.mem
  have hsplit := split_at L i X hL [(w.heap.size, o)]
  have hnd := hm.nodup
  rw [hsplit.1] at hnd
  have hoth : ∀ p, p ∈ (L.take i).flatten ∨ p ∈ (L.drop (i + 1)).flatten → p ∈ L.flatten := by
    intro p hp
    rw [hsplit.1]
    rcases hp with hp | hp <;> simp [hp]
  have hcas : ∀ p ∈ (L.set i [(w.heap.size, o)]).flatten, p = (w.heap.size, o) ∨ (p ∈ (L.take i).flatten ∨ p ∈ (L.drop (i + 1)).flatten) := by
    intro p hp
    rw [hsplit.2] at hp
    simp only [List.mem_append, List.mem_singleton] at hp
    rcases hp with hp | hp | hp
    · exact .inr (.inl hp)
    · exact .inl hp
    · exact .inr (.inr hp)
  have hlt : ∀ p ∈ L.flatten, p.1 < w.heap.size := fun p hp => lt_of_get (hm.loc p hp)
  refine ⟨⟨fun k ob hI => ?_, fun p hp => ?_, fun p hp => ?_, ?_⟩, ⟨h1.trans hs.chg.os, h2.trans hs.chg.tape, h3.trans hs.chg.output, by rw [hw]; have := hs.chg.size; simp; omega, fun k hk0 hkM => ?_⟩, fun p hp => ?_, hs.im0, hs.new⟩
  · rw [hold k (lt_of_get (hm.im k ob hI))]; exact hm.im k ob hI
  · rcases hcas p hp with rfl | h
    · exact hnew
    · have := hoth p h; rw [hold _ (hlt p this)]; exact hm.loc p this
  · rcases hcas p hp with rfl | h
    · cases hi : I w.heap.size with
      | none => rfl
      | some ob => have := lt_of_get (hm.im _ ob hi); omega
    · exact hm.sep p (hoth p h)
  · rw [hsplit.2]
    simp only [List.map_append, List.map_cons, List.map_nil, List.nodup_append] at hnd ⊢
    refine ⟨hnd.1, ⟨by simp, hnd.2.1.2.1, ?_⟩, ?_⟩
    · intro x hx y hy e
      obtain ⟨q, hq, rfl⟩ := List.mem_map.1 hy
      simp at hx
      have := hlt q (hoth q (.inr hq))
      omega
    · intro x hx y hy e
      obtain ⟨q, hq, rfl⟩ := List.mem_map.1 hx
      have h5 := hlt q (hoth q (.inl hq))
      simp only [List.mem_append, List.mem_singleton] at hy
      rcases hy with rfl | hy
      · omega
      · exact hnd.2.2 _ (List.mem_map_of_mem hq) y (by simp only [List.mem_append]; exact .inr hy) e
  · have : k < w.heap.size := Nat.lt_of_lt_of_le hk0 hs.chg.size
    rw [hold k this]
    exact hs.chg.block k hk0 hkM
  · rcases hcas p hp with rfl | h
    · exact .inl hs.chg.size
    · exact hs.own p (hoth p h)

theorem OpS.append_core (i : Nat) {n m : Nat} {a0 : Option Addr} {c : Nat} {u : Value} {xs news : List Value} {X : List (Nat × Obj)} {U : TypeId} {inf : TypeInfo} {zv : Value} (hzs : zv.cells.size = inf.size) {a : Act} {w : World}
    (hxe : ev ρ x = some (.slice a0 n c)) (hye : ev ρ y = some u) (ha : Fits N ρ a) (hst : St C I L w) (hL : L[i]? = some X) (hown : Own E inf.size (.slice a0 n c) n xs X) (hnl : news.length = m * inf.size) (h1 : ones news = true)
    (hn63 : n + m ≤ maxLen)
    (hboth : (n + m ≤ c → (Builtin.append_ #[T, U] ty #[.slice a0 n c, u]).run P w = ((match a0 with | some ad => storeCells (ad.add (n * inf.size)) news | none => pure ()).run P w).andThen fun _ w' => .ok (.slice a0 (n + m) c) w') ∧
    (c < n + m → ∀ olds, ((Builtin.firstCells inf.size n (.slice a0 n c)).run P w.drew = .ok olds w.drew) →
      (Builtin.append_ #[T, U] ty #[.slice a0 n c, u]).run P w = .ok (.slice (some ⟨w.heap.size, 0, none⟩) (n + m) (grownCap w (n + m) c E))
        (w.drew.alloc (.cells (olds ++ news.toArray ++ Builtin.zeroCells zv.cells (grownCap w (n + m) c E - (n + m))) E))))
    (k : ∀ v' X', Own E inf.size v' (n + m) (xs ++ news) X' → K v' I (L.set i X')) :
    Yld P ((execOp a.eval ⟨d, .call ⟨.builtin .append, #[x, y], #[T, U]⟩, ty, ps, af, g⟩).run P w) fun v w' => ∃ J L', St C J L' w' ∧ K v J L' := by
  have hmem : ∀ w', w'.heap = w.heap → Mem I L w' := fun w' hw => ⟨by rw [hw]; exact hst.mem.im, by rw [hw]; exact hst.mem.loc, hst.mem.sep, hst.mem.nodup⟩
  have hop : ∀ r, (Builtin.append_ #[T, U] ty #[.slice a0 n c, u]).run P w = r → (execOp a.eval ⟨d, .call ⟨.builtin .append, #[x, y], #[T, U]⟩, ty, ps, af, g⟩).run P w = r.andThen fun v w' => .ok (.value v) w' := fun r hr => by
    simp [execOp, resolve, invoke, builtin, ha.ev hxe, ha.ev hye, hr]
  have hxl := hown.len
  by_cases hroom : n + m ≤ c
  · have hr := hboth.1 hroom
    rcases hown with ⟨hv, rfl, rfl, rfl⟩ | ⟨b, c', sp, hv, rfl, h2, h3, h4, h5⟩
    · cases hv
      have hm0 : m = 0 := by omega
      subst hm0
      have hn0 : news = [] := List.eq_nil_of_length_eq_zero (by simpa using hnl)
      subst hn0
      rw [hop _ hr]
      refine ⟨I, L.set i [], ?_, k _ _ (by simpa using Own.nil E inf.size)⟩
      exact hst.dropAt i
    · cases hv
      rw [hop _ hr]
      have hbh := hst.mem.loc (b, row (xs ++ sp) E) (mem_chunk hL (by simp))
      have hfit : n * inf.size + news.length ≤ (xs ++ sp).length := by rw [hnl, h3, ← Nat.add_mul]; exact Nat.mul_le_mul_right _ hroom
      have hall : ∀ u ∈ news, u.oneCell' = true := fun u hu => List.all_eq_true.1 h1 u hu
      have hst2 := run_storeCells_at P b (n * inf.size) E news 0 (xs ++ sp).toArray w hbh (by simpa using hfit) hall
      simp only [Nat.add_zero] at hst2
      have hseg : List.take (n * inf.size) (xs ++ sp) ++ news ++ List.drop (n * inf.size + news.length) (xs ++ sp) = (xs ++ news) ++ sp.drop news.length := by
        rw [← h2, List.take_left, List.drop_append]
        simp
      simp only [Addr.add_plain, Nat.zero_add, hst2, Result.andThen_ok]
      refine ⟨I, L.set i [(b, row ((xs ++ news) ++ sp.drop news.length) E)], ?_, k _ _ (.inr ⟨b, c, sp.drop news.length, rfl, rfl, ?_, ?_, hroom, h5⟩)⟩
      · rw [hseg]; exact hst.setRow hL _
      · rw [List.length_append, h2, hnl, Nat.add_mul]
      · have : (xs ++ sp).length = n * inf.size + sp.length := by rw [List.length_append, h2]
        simp only [List.length_append, List.length_drop]
        rw [h3] at this hfit
        omega
  · have hlt : c < n + m := by omega
    have hold : (Builtin.firstCells inf.size n (.slice a0 n c)).run P w.drew = .ok xs.toArray w.drew := by
      have := (Src.own (P := P) (I := I) i hL hown).cells w.drew (hmem w.drew rfl) n (Nat.le_refl _)
      rwa [← hxl, List.take_length] at this
    have hr := hboth.2 hlt _ hold
    rw [hop _ hr]
    have hge := grownCap_ge w (n + m) c E
    have hcm : grownCap w (n + m) c E ≤ maxLen := grownCap_le_maxLen w (n + m) c E hn63
    refine ⟨I, _, hst.replace hL rfl rfl rfl rfl, k _ _ (.inr ⟨w.heap.size, _, (Builtin.zeroCells zv.cells (grownCap w (n + m) c E - (n + m))).toList, rfl, ?_, ?_, ?_, hge, hcm⟩)⟩
    · have hz2 : xs.toArray ++ news.toArray ++ Builtin.zeroCells zv.cells (grownCap w (n + m) c E - (n + m)) = (xs ++ news ++ (Builtin.zeroCells zv.cells (grownCap w (n + m) c E - (n + m))).toList).toArray := by
        apply Array.ext'
        simp
      rw [hz2]
    · rw [List.length_append, hxl, hnl, Nat.add_mul]
    · simp only [List.length_append, Array.length_toList, size_zeroCells, hzs, hxl, hnl, ← Nat.add_mul]
      congr 1
      omega
theorem OpS.append (i : Nat) {s by_ n m : Nat} {v u : Value} {xs news : List Value} {X : List (Nat × Obj)} {U : TypeId} (he : Elt P T E s by_) (hs0 : 0 < s) (hU : (∃ E2, P.underlying U = some (.slice E2)) ∨ P.underlying U = some .string)
    (hx : ev ρ x = some v) (hy : ev ρ y = some u) (hL : L[i]? = some X) (hown : Own E s v n xs X) (hsrc : Src P I L s u m news) (h1 : ones news = true)
    (hn63 : n + m ≤ maxLen) (hb : (n + m) * by_ ≤ 140737488355328) (k : ∀ v' X', Own E s v' (n + m) (xs ++ news) X' → K v' I (L.set i X')) :
    OpS P C N ⟨d, .call ⟨.builtin .append, #[x, y], #[T, U]⟩, ty, ps, af, g⟩ ρ I L K := fun a w ha hst => by
  obtain ⟨inf, zv, hi, hz, rfl, rfl, hzs⟩ := he.info
  have hmem : ∀ w', w'.heap = w.heap → Mem I L w' := fun w' hw => ⟨by rw [hw]; exact hst.mem.im, by rw [hw]; exact hst.mem.loc, hst.mem.sep, hst.mem.nodup⟩
  have hcells : ∀ w', w'.heap = w.heap → (Builtin.firstCells inf.size m u).run P w' = .ok news.toArray w' := fun w' hw => by
    have := hsrc.cells w' (hmem w' hw) m (Nat.le_refl _)
    rwa [← hsrc.size, List.take_length] at this
  have h63 : n + m ≤ 9223372036854775807 := by unfold maxLen at hn63; omega
  obtain ⟨a0, c, rfl⟩ := hown.shape
  have hboth : (n + m ≤ c → (Builtin.append_ #[T, U] ty #[.slice a0 n c, u]).run P w = ((match a0 with | some ad => storeCells (ad.add (n * inf.size)) news | none => pure ()).run P w).andThen fun _ w' => .ok (.slice a0 (n + m) c) w') ∧
    (c < n + m → ∀ olds, ((Builtin.firstCells inf.size n (.slice a0 n c)).run P w.drew = .ok olds w.drew) →
      (Builtin.append_ #[T, U] ty #[.slice a0 n c, u]).run P w = .ok (.slice (some ⟨w.heap.size, 0, none⟩) (n + m) (grownCap w (n + m) c E))
        (w.drew.alloc (.cells (olds ++ news.toArray ++ Builtin.zeroCells zv.cells (grownCap w (n + m) c E - (n + m))) E))) := by
    rcases hU with ⟨E2, hU⟩ | hU
    · exact run_append_sl he.und hi hz hU hsrc.len hcells h63 hb
    · exact run_append_str he.und hi hz hU hsrc.len hcells h63 hb
  exact append_core i hzs hx hy ha hst hL hown hsrc.size h1 hn63 hboth k
/-- A chunk is forgotten. -/
theorem wpL.forget {C : Ctx} {ops : Array Oper} {Q : Exit → Env → Im → Lh → Prop} {l : List Oper} {X L : Lh} (h : wpL P C N ops Q l ρ I L) : wpL P C N ops Q l ρ I (X ++ L) := fun hd a w ha hs => h hd a w ha hs.drop
theorem wpS.forget {C : Ctx} {c : Code} {Q : Exit → Env → Im → Lh → Prop} {X L : Lh} (h : wpS P C N c Q ρ I L) : wpS P C N c Q ρ I (X ++ L) := fun a w ha hs => h a w ha hs.drop

/-! what a function hands back -/
def resF (tmps : Array Value) : ResultVar → Sem Value
  | .tmp t => pure (tmps.getD t undef)
  | .cell a t => do loadVar t (← asAddr (tmps.getD a undef))
theorem results_resF (fn : Func) (tmps : Array Value) : results fn tmps = (do let vs ← fn.results.mapM (resF tmps); pure (if h : vs.size = 1 then vs[0] else .tuple vs)) := by
  unfold results
  congr 1
def FinR (P : Program) (r : ResultVar) (ρ : Env) (I : Im) (L : Lh) (v : Value) : Prop :=
  ∀ N a w, Fits N ρ a → Mem I L w → (resF a.tmps r).run P w = .ok v w
theorem FinR.tmp {t : Nat} {v : Value} (h : look ρ t = some v) : FinR P (.tmp t) ρ I L v := fun N a w ha hm => by simp [resF, ha.tmp t v h]
theorem FinR.cellA (i : Nat) {t b : Nat} {cs : List Value} {e : TypeId} {dd : TypeDesc} (hT : P.underlying T = some dd) (hd : isRow dd = true) (hs : SizeIs P T cs.length) (h : look ρ t = some (ptr b 0)) (hL : L[i]? = some [(b, row cs e)]) :
    FinR P (.cell t T) ρ I L (.agg cs.toArray) := fun N a w ha hm => by
  have hr := run_loadA (P := P) (T := T) (w := w) (b := b) (o := 0) (vs := cs) hT hd hs (fun j v hv => by rw [chunk_cell hm hL]; simpa using hv)
  simp only [Instr.loadAt, Instr.sureAddr, Sem.run_bind, Sem.run_pure, Result.andThen_ok] at hr
  have ht : a.tmps.getD t undef = ptr b 0 := by simp [ha.tmp t _ h]
  simp only [resF, ht, asAddr, Sem.run_bind, Sem.run_pure, Result.andThen_ok, hr]
theorem FinR.cellS (i : Nat) {t b : Nat} {v : Value} {e : TypeId} {dd : TypeDesc} (hT : P.underlying T = some dd) (hd : isRow dd = false) (h : look ρ t = some (ptr b 0)) (hL : L[i]? = some [(b, row [v] e)]) :
    FinR P (.cell t T) ρ I L v := fun N a w ha hm => by
  have hr := run_load (P := P) (T := T) (w := w) (b := b) (o := 0) (v := v) hT hd (by rw [chunk_cell hm hL]; rfl)
  simp only [Instr.loadAt, Instr.sureAddr, Sem.run_bind, Sem.run_pure, Result.andThen_ok] at hr
  have ht : a.tmps.getD t undef = ptr b 0 := by simp [ha.tmp t _ h]
  simp only [resF, ht, asAddr, Sem.run_bind, Sem.run_pure, Result.andThen_ok, hr]
theorem Fin.r0 {fn : Func} (h : fn.results = #[]) : Fin P fn ρ I L (.tuple #[]) := fun N a w ha hm => by simp [results_resF, h]
theorem Fin.r1 {fn : Func} {r : ResultVar} {v : Value} (h : fn.results = #[r]) (h1 : FinR P r ρ I L v) : Fin P fn ρ I L v := fun N a w ha hm => by
  simp [results_resF, h, h1 N a w ha hm]
theorem Fin.r2 {fn : Func} {r r2 : ResultVar} {v v2 : Value} (h : fn.results = #[r, r2]) (h1 : FinR P r ρ I L v) (h2 : FinR P r2 ρ I L v2) : Fin P fn ρ I L (.tuple #[v, v2]) := fun N a w ha hm => by
  simp [results_resF, h, h1 N a w ha hm, h2 N a w ha hm]
theorem Fin.r3 {fn : Func} {r r2 r3 : ResultVar} {v v2 v3 : Value} (h : fn.results = #[r, r2, r3]) (h1 : FinR P r ρ I L v) (h2 : FinR P r2 ρ I L v2) (h3 : FinR P r3 ρ I L v3) : Fin P fn ρ I L (.tuple #[v, v2, v3]) := fun N a w ha hm => by
  simp [results_resF, h, h1 N a w ha hm, h2 N a w ha hm, h3 N a w ha hm]

theorem evL0 : evL ρ [] = some [] := rfl
theorem evL1 {v : Value} (h : ev ρ x = some v) : evL ρ [x] = some [v] := by simp [evL, h]
theorem evL2 {v u : Value} (h : ev ρ x = some v) (h2 : ev ρ y = some u) : evL ρ [x, y] = some [v, u] := by simp [evL, h, h2]
theorem evL3 {v u t : Value} (h : ev ρ x = some v) (h2 : ev ρ y = some u) (h3 : ev ρ z = some t) : evL ρ [x, y, z] = some [v, u, t] := by simp [evL, h, h2, h3]
theorem evL4 {v u t s : Value} {z2 : Operand} (h : ev ρ x = some v) (h2 : ev ρ y = some u) (h3 : ev ρ z = some t) (h4 : ev ρ z2 = some s) : evL ρ [x, y, z, z2] = some [v, u, t, s] := by simp [evL, h, h2, h3, h4]
/-- A call whose result is a known value without memory. -/
theorem OpX.lendIs {f : FuncId} {F : Operand} {args : Array Operand} {tys : Array TypeId} {vs : List Value} {r : Value} (hF : ev ρ F = some (.func (.func f) #[] #[])) (hv : evL ρ args.toList = some vs)
    (h : ∀ J, Le I J → (∀ p ∈ L.flatten, J p.1 = some p.2) → Fun P f vs.toArray J (fun v _ => v = r)) (k : K r I []) : OpX P N ⟨d, .call ⟨.value F, args, tys⟩, ty, ps, af, g⟩ ρ I L K :=
  .lend hF hv h (fun v hv => hv ▸ k)
end
end Go.Fl
