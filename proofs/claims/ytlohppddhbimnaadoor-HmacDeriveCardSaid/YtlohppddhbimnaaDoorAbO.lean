import Derived.Test.YtlohppddhbimnaaDoorAbA
import Derived.Laws.CopyRow
/- Growing slices of the call's own whose row may bear the mark of a converted string. -/
set_option linter.unusedVariables false
namespace Go.Ab
open Go.Fl Go.RowKit
open Rep (rep)
def OwnG (e : TypeId) (s : Nat) (v : Value) (n : Nat) (xs : List Value) (X : List (Nat × Obj)) : Prop :=
  (v = .slice none 0 0 ∧ n = 0 ∧ xs = [] ∧ X = []) ∨
  ∃ b c sp q, v = slc b 0 n c ∧ X = [(b, .cells (xs ++ sp).toArray e q)] ∧ xs.length = n * s ∧ (xs ++ sp).length = c * s ∧ n ≤ c ∧ c ≤ maxLen ∧ (q = (0, 0) ∨ q = ((xs ++ sp).length, (xs ++ sp).length + 1))
theorem OwnG.nil (e : TypeId) (s : Nat) : OwnG e s (.slice none 0 0) 0 [] [] := .inl ⟨rfl, rfl, rfl, rfl⟩
theorem OwnG.of {e : TypeId} {s n : Nat} {v : Value} {xs : List Value} {X : List (Nat × Obj)} (h : Own e s v n xs X) : OwnG e s v n xs X := by
  rcases h with h | ⟨b, c, sp, h1, h2, h3, h4, h5, h6⟩
  · exact .inl h
  · exact .inr ⟨b, c, sp, (0, 0), h1, h2, h3, h4, h5, h6, .inl rfl⟩
theorem OwnG.shape {e : TypeId} {s n : Nat} {v : Value} {xs : List Value} {X : List (Nat × Obj)} (h : OwnG e s v n xs X) : ∃ a c, v = .slice a n c := by
  rcases h with ⟨rfl, rfl, _⟩ | ⟨b, c, sp, q, rfl, _⟩
  · exact ⟨_, _, rfl⟩
  · exact ⟨_, _, rfl⟩
theorem OwnG.len {e : TypeId} {s n : Nat} {v : Value} {xs : List Value} {X : List (Nat × Obj)} (h : OwnG e s v n xs X) : xs.length = n * s := by
  rcases h with ⟨_, rfl, rfl, _⟩ | ⟨b, c, sp, q, _, _, h, _⟩
  · simp
  · exact h
theorem OwnG.le {e : TypeId} {s n : Nat} {v : Value} {xs : List Value} {X : List (Nat × Obj)} (h : OwnG e s v n xs X) : n ≤ 9223372036854775807 := by
  rcases h with ⟨_, rfl, rfl, _⟩ | ⟨b, c, sp, q, _, _, _, _, h1, h2, _⟩
  · simp
  · unfold maxLen at h2; omega
theorem OwnG.sl {e : TypeId} {s n : Nat} {v : Value} {xs : List Value} {X : List (Nat × Obj)} (h : OwnG e s v n xs X) {J : Im} (hJ : ∀ p ∈ X, J p.1 = some p.2) : Sl J s v n xs := by
  rcases h with ⟨rfl, rfl, rfl, rfl⟩ | ⟨b, c, sp, q, rfl, rfl, h3, h4, h5, h6, _⟩
  · exact Sl.nil J s
  · refine Sl.of_cells ⟨_, _, _, hJ _ (List.mem_singleton.2 rfl), fun i v hv => ?_⟩ h3 h5 h6
    have hi := (List.getElem?_eq_some_iff.1 hv).1
    simp only [Nat.zero_add, List.getElem?_toArray]
    rw [List.getElem?_append_left hi]; exact hv
/-- Stores into a row none of whose cells is barred. -/
theorem run_storeCells_fr (P : Program) (g o : Nat) (t : TypeId) (q : Nat × Nat) : ∀ (vs : List Value) (i : Nat) (cur : Array Value) (w : World), w.heap[g]? = some (.cells cur t q) → o + i + vs.length ≤ cur.size → (∀ v ∈ vs, v.oneCell' = true) →
    (∀ j, j < cur.size → ¬ (q.1 ≤ j ∧ j < q.2)) → (storeCells ⟨g, o, none⟩ vs i).run P w = .ok () (w.setRow g (cur.toList.take (o + i) ++ vs ++ cur.toList.drop (o + i + vs.length)).toArray)
  | [], i, cur, w, hg, _, _, _ => by
    simp only [storeCells, List.append_nil, List.length_nil, Nat.add_zero, List.take_append_drop, Array.toArray_toList]
    rw [setRow_self w g cur t q hg]
    rfl
  | v :: rest, i, cur, w, hg, hl, h1, hq => by
    have hi : o + i < cur.size := by simp at hl; omega
    have hadd : (⟨g, o, none⟩ : Addr).add i = ⟨g, o + i, none⟩ := by unfold Addr.add; split <;> simp_all
    have hcell : w.cell? ⟨g, o + i, none⟩ = some cur[o + i] := by simp [World.cell?, hg, hi]
    have hfro : w.frozen? ⟨g, o + i, none⟩ = false := by
      have := hq (o + i) hi
      simp only [World.frozen?, hg]
      simp only [Bool.and_eq_false_iff, decide_eq_false_iff_not]
      omega
    have hst : (store ((⟨g, o, none⟩ : Addr).add i) v).run P w = .ok () (w.setRow g (cur.setIfInBounds (o + i) v)) := by
      rw [hadd, run_store P w _ v _ (h1 v (by simp)), hcell]
      simp [hfro, setCell_eq_setRow w g (o + i) cur t q v hg]
    have ih := run_storeCells_fr P g o t q rest (i + 1) (cur.setIfInBounds (o + i) v) (w.setRow g (cur.setIfInBounds (o + i) v)) (setRow_heap w g cur _ t _ hg) (by simp at hl ⊢; omega) (fun x hx => h1 x (by simp [hx])) (by simpa using hq)
    simp only [storeCells, Sem.run_bind, hst, Result.andThen_ok, ih, setRow_setRow]
    congr 3
    have e := list_seg_step cur.toList (o + i) v rest (by simp at hl ⊢; omega)
    simpa [Array.toList_setIfInBounds, Nat.add_assoc] using e
theorem setRowG {C : Ctx} {I : Im} {L : Lh} {w : World} (hs : St C I L w) {i b : Nat} {cs : List Value} {e : TypeId} {q : Nat × Nat} (hL : L[i]? = some [(b, .cells cs.toArray e q)]) (cs' : List Value) : St C I (L.set i [(b, .cells cs'.toArray e q)]) (w.setRow b cs'.toArray) := by
  have hb := hs.mem.loc (b, .cells cs.toArray e q) (mem_chunk hL (by simp))
  exact hs.write hL (setRow_heap w b _ _ e q hb) (fun k hk => setRow_other w b k _ hk) (by simp) rfl rfl rfl
section
variable {P : Program} {C : Ctx} {N : Nat} {ρ : Env} {I : Im} {L : Lh} {K : Value → Im → Lh → Prop} {d : Option Nat} {ty : TypeId} {ps : String} {af : Array Edge} {g : Option (Nat × Bool)}
variable {x y z : Operand} {T T2 E : TypeId}
theorem chunk_cellG {w : World} (hm : Mem I L w) {i b : Nat} {cs : List Value} {e : TypeId} {q : Nat × Nat} (hL : L[i]? = some [(b, .cells cs.toArray e q)]) (o : Nat) : w.cell? ⟨b, o, none⟩ = cs[o]? := by
  have := hm.loc (b, .cells cs.toArray e q) (mem_chunk hL (by simp))
  rw [cell_of this]
  simp
theorem Src.ownG {s m : Nat} {v : Value} {news : List Value} {X : List (Nat × Obj)} {e : TypeId} (i : Nat) (hL : L[i]? = some X) (h : OwnG e s v m news X) : Src P I L s v m news := by
  rcases h with ⟨rfl, rfl, rfl, rfl⟩ | ⟨b, c, sp, q, rfl, rfl, h1, h2, h3, h4, h5⟩
  · exact Src.sl (Sl.nil I s)
  · refine ⟨fun w => by simp [Builtin.lenOf], fun w hm k hk => ?_, h1⟩
    have hle : k * s ≤ m * s := Nat.mul_le_mul_right _ hk
    have htl : (news.take (k * s)).length = k * s := by rw [List.length_take, h1]; exact Nat.min_eq_left hle
    have := run_loadCells_list (P := P) w ⟨b, 0, none⟩ (news.take (k * s)) (fun j u hj => by
      rw [List.getElem?_take] at hj
      split at hj
      · rw [Addr.add_plain, chunk_cellG hm hL, Nat.zero_add, List.getElem?_append_left (List.getElem?_eq_some_iff.1 hj).1]; exact hj
      · cases hj)
    rw [htl] at this
    simp only [Builtin.firstCells, this]
theorem OpS.appendG_core (i : Nat) {n m : Nat} {a0 : Option Addr} {c : Nat} {u : Value} {xs news : List Value} {X : List (Nat × Obj)} {U : TypeId} {inf : TypeInfo} {zv : Value} (hzs : zv.cells.size = inf.size) {a : Act} {w : World}
    (hxe : ev ρ x = some (.slice a0 n c)) (hye : ev ρ y = some u) (ha : Fits N ρ a) (hst : St C I L w) (hL : L[i]? = some X) (hown : OwnG E inf.size (.slice a0 n c) n xs X) (hnl : news.length = m * inf.size) (h1 : ones news = true)
    (hn63 : n + m ≤ maxLen)
    (hboth : (n + m ≤ c → (Builtin.append_ #[T, U] ty #[.slice a0 n c, u]).run P w = ((match a0 with | some ad => storeCells (ad.add (n * inf.size)) news | none => pure ()).run P w).andThen fun _ w' => .ok (.slice a0 (n + m) c) w') ∧
    (c < n + m → ∀ olds, ((Builtin.firstCells inf.size n (.slice a0 n c)).run P w.drew = .ok olds w.drew) →
      (Builtin.append_ #[T, U] ty #[.slice a0 n c, u]).run P w = .ok (.slice (some ⟨w.heap.size, 0, none⟩) (n + m) (grownCap w (n + m) c E))
        (w.drew.alloc (.cells (olds ++ news.toArray ++ Builtin.zeroCells zv.cells (grownCap w (n + m) c E - (n + m))) E))))
    (k : ∀ v' X', OwnG E inf.size v' (n + m) (xs ++ news) X' → (∀ p ∈ X', p.1 ∈ X.map Prod.fst ∨ C.w0.heap.size ≤ p.1) → K v' I (L.set i X')) :
    Yld P ((execOp a.eval ⟨d, .call ⟨.builtin .append, #[x, y], #[T, U]⟩, ty, ps, af, g⟩).run P w) fun v w' => ∃ J L', St C J L' w' ∧ K v J L' := by
  have hmem : ∀ w', w'.heap = w.heap → Mem I L w' := fun w' hw => ⟨by rw [hw]; exact hst.mem.im, by rw [hw]; exact hst.mem.loc, hst.mem.sep, hst.mem.nodup⟩
  have hop : ∀ r, (Builtin.append_ #[T, U] ty #[.slice a0 n c, u]).run P w = r → (execOp a.eval ⟨d, .call ⟨.builtin .append, #[x, y], #[T, U]⟩, ty, ps, af, g⟩).run P w = r.andThen fun v w' => .ok (.value v) w' := fun r hr => by
    simp [execOp, resolve, invoke, builtin, ha.ev hxe, ha.ev hye, hr]
  have hxl := hown.len
  by_cases hroom : n + m ≤ c
  · have hr := hboth.1 hroom
    rcases hown with ⟨hv, rfl, rfl, rfl⟩ | ⟨b, c', sp, q, hv, rfl, h2, h3, h4, h5, h6⟩
    · cases hv
      have hm0 : m = 0 := by omega
      subst hm0
      have hn0 : news = [] := List.eq_nil_of_length_eq_zero (by simpa using hnl)
      subst hn0
      rw [hop _ hr]
      refine ⟨I, L.set i [], ?_, k _ _ (by simpa using OwnG.nil E inf.size) (by simp)⟩
      exact hst.dropAt i
    · cases hv
      rw [hop _ hr]
      have hbh := hst.mem.loc (b, .cells (xs ++ sp).toArray E q) (mem_chunk hL (by simp))
      have hfit : n * inf.size + news.length ≤ (xs ++ sp).length := by rw [hnl, h3, ← Nat.add_mul]; exact Nat.mul_le_mul_right _ hroom
      have hall : ∀ u ∈ news, u.oneCell' = true := fun u hu => List.all_eq_true.1 h1 u hu
      have hst2 := run_storeCells_fr P b (n * inf.size) E q news 0 (xs ++ sp).toArray w hbh (by simpa using hfit) hall (fun j hj => by rcases h6 with rfl | rfl <;> simp at hj ⊢ <;> omega)
      simp only [Nat.add_zero] at hst2
      have hseg : List.take (n * inf.size) (xs ++ sp) ++ news ++ List.drop (n * inf.size + news.length) (xs ++ sp) = (xs ++ news) ++ sp.drop news.length := by
        rw [← h2, List.take_left, List.drop_append]
        simp
      simp only [Addr.add_plain, Nat.zero_add, hst2, Result.andThen_ok]
      refine ⟨I, L.set i [(b, .cells ((xs ++ news) ++ sp.drop news.length).toArray E q)], ?_, k _ _ (.inr ⟨b, c, sp.drop news.length, q, rfl, rfl, ?_, ?_, hroom, h5, ?_⟩) (by simp)⟩
      · rw [hseg]; exact setRowG hst hL _
      · rw [List.length_append, h2, hnl, Nat.add_mul]
      · have : (xs ++ sp).length = n * inf.size + sp.length := by rw [List.length_append, h2]
        simp only [List.length_append, List.length_drop]
        rw [h3] at this hfit
        omega
      · have hle : news.length ≤ sp.length := by rw [List.length_append, h2] at hfit; omega
        have e : ((xs ++ news) ++ sp.drop news.length).length = (xs ++ sp).length := by simp; omega
        rw [e]; exact h6
  · have hlt : c < n + m := by omega
    have hold : (Builtin.firstCells inf.size n (.slice a0 n c)).run P w.drew = .ok xs.toArray w.drew := by
      have := (Src.ownG (P := P) (I := I) i hL hown).cells w.drew (hmem w.drew rfl) n (Nat.le_refl _)
      rwa [← hxl, List.take_length] at this
    have hr := hboth.2 hlt _ hold
    rw [hop _ hr]
    have hge := grownCap_ge w (n + m) c E
    have hcm : grownCap w (n + m) c E ≤ maxLen := grownCap_le_maxLen w (n + m) c E hn63
    refine ⟨I, _, hst.replace hL rfl rfl rfl rfl, k _ _ (.inr ⟨w.heap.size, _, (Builtin.zeroCells zv.cells (grownCap w (n + m) c E - (n + m))).toList, (0, 0), rfl, ?_, ?_, ?_, hge, hcm, .inl rfl⟩) (fun p hp => .inr (by simp only [List.mem_singleton] at hp; subst hp; exact hst.chg.size))⟩
    · have hz2 : xs.toArray ++ news.toArray ++ Builtin.zeroCells zv.cells (grownCap w (n + m) c E - (n + m)) = (xs ++ news ++ (Builtin.zeroCells zv.cells (grownCap w (n + m) c E - (n + m))).toList).toArray := by
        apply Array.ext'
        simp
      rw [hz2]
    · rw [List.length_append, hxl, hnl, Nat.add_mul]
    · simp only [List.length_append, Array.length_toList, size_zeroCells, hzs, hxl, hnl, ← Nat.add_mul]
      congr 1
      omega
theorem OpS.appendG (i : Nat) {s by_ n m : Nat} {v u : Value} {xs news : List Value} {X : List (Nat × Obj)} {U : TypeId} (he : Elt P T E s by_) (hs0 : 0 < s) (hU : (∃ E2, P.underlying U = some (.slice E2)) ∨ P.underlying U = some .string)
    (hx : ev ρ x = some v) (hy : ev ρ y = some u) (hL : L[i]? = some X) (hown : OwnG E s v n xs X) (hsrc : Src P I L s u m news) (h1 : ones news = true)
    (hn63 : n + m ≤ maxLen) (hb : (n + m) * by_ ≤ 140737488355328) (k : ∀ v' X', OwnG E s v' (n + m) (xs ++ news) X' → (∀ p ∈ X', p.1 ∈ X.map Prod.fst ∨ C.w0.heap.size ≤ p.1) → K v' I (L.set i X')) :
    OpS P C N ⟨d, .call ⟨.builtin .append, #[x, y], #[T, U]⟩, ty, ps, af, g⟩ ρ I L K := fun a w ha hst => by
  obtain ⟨inf, zv, hi, hz, rfl, rfl, hzs⟩ := he.info
  have hmem : ∀ w', w'.heap = w.heap → Mem I L w' := fun w' hw => ⟨by rw [hw]; exact hst.mem.im, by rw [hw]; exact hst.mem.loc, hst.mem.sep, hst.mem.nodup⟩
  have hcells : ∀ w', w'.heap = w.heap → (Builtin.firstCells inf.size m u).run P w' = .ok news.toArray w' := fun w' hw => by
    have := hsrc.cells w' (hmem w' hw) m (Nat.le_refl _)
    rwa [← hsrc.size, List.take_length] at this
  have h63 : n + m ≤ 9223372036854775807 := by unfold maxLen at hn63; omega
  obtain ⟨a0, c, rfl⟩ := hown.shape
  have hboth : (n + m ≤ c → (Builtin.append_ #[T, U] ty #[.slice a0 n c, u]).run P w = ((match a0 with | some ad => storeCells (ad.add (n * inf.size)) news | none => pure ()).run P w).andThen fun _ w' => .ok (.slice a0 (n + m) c) w') ∧
    (c < n + m → ∀ olds, ((Builtin.firstCells inf.size n (.slice a0 n c)).run P w.drew = .ok olds w.drew) →
      (Builtin.append_ #[T, U] ty #[.slice a0 n c, u]).run P w = .ok (.slice (some ⟨w.heap.size, 0, none⟩) (n + m) (grownCap w (n + m) c E))
        (w.drew.alloc (.cells (olds ++ news.toArray ++ Builtin.zeroCells zv.cells (grownCap w (n + m) c E - (n + m))) E))) := by
    rcases hU with ⟨E2, hU⟩ | hU
    · exact run_append_sl he.und hi hz hU hsrc.len hcells h63 hb
    · exact run_append_str he.und hi hz hU hsrc.len hcells h63 hb
  exact appendG_core i hzs hx hy ha hst hL hown hsrc.size h1 hn63 hboth k
end
end Go.Ab
